/- plan.check. -/
import Derived.Test.YthbiiccblcoogaaGreatDoorPlanC
set_option linter.unusedVariables false
set_option linter.unusedSimpArgs false
namespace Go.Proofs.YthbiiccblcoogaaGreatDoor
open Go.RowKit

/-- The conditions of a pattern, where they can be read. -/
def Cv (w : World) (g : Option Addr) (l : List Pat.Cond) : Prop :=
  ∀ i x, l[i]? = some x → ∃ b, g = some ⟨b, 0, none⟩ ∧ b < w.heap.size ∧ w.cell? ⟨b, i * 4, none⟩ = some (.int .u8 x.left.toNat) ∧ w.cell? ⟨b, i * 4 + 1, none⟩ = some (.int .i64 x.op) ∧
    w.cell? ⟨b, i * 4 + 2, none⟩ = some (.int .u8 x.right.toNat) ∧ w.cell? ⟨b, i * 4 + 3, none⟩ = some (.int .i64 x.add)
theorem Cv.below {w w' : World} {g : Option Addr} {l : List Pat.Cond} (h : Cv w g l) (hb : Below w.heap.size w w') : Cv w' g l := by
  intro i x hx
  obtain ⟨b, h1, h2, h3, h4, h5, h6⟩ := h i x hx
  exact ⟨b, h1, Nat.lt_of_lt_of_le h2 hb.size, by rw [hb.cell h2]; exact h3, by rw [hb.cell h2]; exact h4, by rw [hb.cell h2]; exact h5, by rw [hb.cell h2]; exact h6⟩

def bindsOf (l : List Pat.Step) : Int := (l.map fun x => if x.neg then 0 else x.hi).sum
theorem bindsOf_take {l : List Pat.Step} {i : Nat} {x : Pat.Step} (hx : l[i]? = some x) : bindsOf (l.take (i + 1)) = bindsOf (l.take i) + (if x.neg then 0 else x.hi) := by
  rw [List.take_add_one, hx]
  simp [bindsOf]

/-- What a pattern is that was read. -/
structure GoodP (p : Pat.Pattern) : Prop where
  s1 : 1 ≤ p.steps.length
  s2 : p.steps.length ≤ 8
  c1 : p.conds.length ≤ 16
  w1 : 0 ≤ p.within
  w2 : p.within < 1000000000
  st : ∀ (i : Nat) x, p.steps[i]? = some x → GoodS x
  cd : ∀ (i : Nat) x, p.conds[i]? = some x → GoodC x
theorem GoodP.binds {p : Pat.Pattern} (h : GoodP p) : ∀ i, i ≤ p.steps.length → 0 ≤ bindsOf (p.steps.take i) ∧ bindsOf (p.steps.take i) ≤ 4 * i
  | 0, _ => by simp [bindsOf]
  | i + 1, hi => by
    obtain ⟨h1, h2⟩ := h.binds i (by omega)
    obtain ⟨x, hx⟩ : ∃ x, p.steps[i]? = some x := ⟨p.steps[i], List.getElem?_eq_getElem (by omega)⟩
    have g := h.st i x hx
    have g1 := g.l1
    have g2 := g.l2
    have g3 := g.l3
    rw [bindsOf_take hx]
    split <;> omega

/-- A pattern that was read can be run. -/
def Okay (p : Pat.Pattern) : Prop :=
  (∀ (i : Nat) x, p.steps[i]? = some x → stepE p.steps i x = 0) ∧ bindsOf p.steps ≤ 16 ∧ ∀ (i : Nat) c, p.conds[i]? = some c → condE p.steps c = 0

theorem stepE_cases (l : List Pat.Step) (i : Nat) (x : Pat.Step) : stepE l i x = 0 ∨ stepE l i x = 21 ∨ stepE l i x = 23 := by
  unfold stepE; split
  · exact .inr (.inl rfl)
  · split
    · exact .inr (.inr rfl)
    · exact .inl rfl
theorem condE_cases (l : List Pat.Step) (x : Pat.Cond) : condE l x = 0 ∨ condE l x = 21 ∨ condE l x = 23 := by
  unfold condE
  split; · exact .inr (.inl rfl)
  split; · exact .inl rfl
  split; · exact .inr (.inl rfl)
  split; · exact .inr (.inr rfl)
  exact .inl rfl

theorem pstep_is (g1 g2 : Option Addr) (c1 m2 c2 i : Nat) (wi : Int) (l : List Pat.Step) (x : Pat.Step) (w : World) (hl : l.length ≤ 1000) (hs : Sv w g1 l) (hx : l[i]? = some x) (gx : GoodS x) (E : Int) (hE : stepE l i x = E) :
    Calls Tryz.prog 256 #[.agg #[.slice g1 l.length c1, .slice g2 m2 c2, .int .i64 wi], .int .i64 i] w fun e w' => e = .returned (.int .i64 E) ∧ Below w.heap.size w w' := by
  subst hE; exact pstep_any g1 g2 c1 m2 c2 i wi l x w hl hs hx gx
theorem pcond_is (g1 g2 : Option Addr) (c1 m2 c2 : Nat) (wi : Int) (l : List Pat.Step) (c : Pat.Cond) (w : World) (hl : l.length ≤ 1000) (hs : Sv w g1 l) (gc : GoodC c) (E : Int) (hE : condE l c = E) :
    Calls Tryz.prog 257 #[.agg #[.slice g1 l.length c1, .slice g2 m2 c2, .int .i64 wi], .agg #[.int .u8 c.left.toNat, .int .i64 c.op, .int .u8 c.right.toNat, .int .i64 c.add]] w fun e w' => e = .returned (.int .i64 E) ∧ Below w.heap.size w w' := by
  subst hE; exact pcond_any g1 g2 c1 m2 c2 wi l c w hl hs gc

/-- What a call of 'check' gives. -/
def ChkR (p : Pat.Pattern) (w : World) (e : Ending) (w' : World) : Prop :=
  (∃ a E : Int, e = .returned (.tuple #[.int .i64 a, .int .i64 E]) ∧ ((E = 0 ∧ Okay p) ∨ ((E = 21 ∨ E = 23 ∨ E = 24) ∧ ¬ Okay p))) ∧ Below w.heap.size w w'
theorem ChkR.bad {p : Pat.Pattern} {w w' : World} {a E : Int} (hE : E = 21 ∨ E = 23 ∨ E = 24) (h : ¬ Okay p) (hb : Below w.heap.size w w') : ChkR p w (.returned (.tuple #[.int .i64 a, .int .i64 E])) w' :=
  ⟨⟨a, E, rfl, .inr ⟨hE, h⟩⟩, hb⟩

set_option maxRecDepth 100000 in
set_option maxHeartbeats 3200000 in
theorem check_any (g1 g2 : Option Addr) (c1 c2 : Nat) (p : Pat.Pattern) (w : World) (gp : GoodP p) (hs : Sv w g1 p.steps) (hc : Cv w g2 p.conds) :
    Calls Tryz.prog 171 #[.agg #[.slice g1 p.steps.length c1, .slice g2 p.conds.length c2, .int .i64 p.within]] w (ChkR p w) := by
  have h1 : (1 : Int) ≤ p.steps.length := by have := gp.s1; omega
  have h2 : (p.steps.length : Int) ≤ 8 := by have := gp.s2; omega
  have h3 : (p.conds.length : Int) ≤ 16 := by have := gp.c1; omega
  have h4 := gp.w1
  have h5 : p.within ≤ 9007199254740992 := by have := gp.w2; omega
  have B0 := (Below.refl w.heap.size w).alloc (Nat.le_refl _) (.cells #[.slice g1 p.steps.length c1, .slice g2 p.conds.length c2, .int .i64 p.within] 242)
  have X0 := Lb.new w #[.slice g1 p.steps.length c1, .slice g2 p.conds.length c2, .int .i64 p.within] 242
  have s0 := hs.below B0
  have k0 := hc.below B0
  have hBi := gp.binds
  have hS := gp.st
  have hC := gp.cd
  have hne : ((p.steps.length : Int) < 1) = False := by simp; omega
  go_enter Tryz.func171, Tryz.ntmps171
  go_upto_block 1 with fail
  go_cut [4] (fun s4 wr => s4 = .int .i64 (bindsOf p.steps) ∧ Below (w.heap.size + 1) (w.alloc (.cells #[.slice g1 p.steps.length c1, .slice g2 p.conds.length c2, .int .i64 p.within] 242)) wr ∧ ∀ (i : Nat) x, p.steps[i]? = some x → stepE p.steps i x = 0)
  case first =>
    go_wp2_with fail
    go_loopw [40, 4] (fun v40 v4 wr => ∃ i : Nat, i ≤ p.steps.length ∧ v40 = .int .i64 i ∧ v4 = .int .i64 (bindsOf (p.steps.take i)) ∧ Below (w.heap.size + 1) (w.alloc (.cells #[.slice g1 p.steps.length c1, .slice g2 p.conds.length c2, .int .i64 p.within] 242)) wr ∧ ∀ (j : Nat) x, j < i → p.steps[j]? = some x → stepE p.steps j x = 0) (fun v40 _ _ => 20 - (intOf v40).toNat)
    case atStart => exact ⟨0, Nat.zero_le _, rfl, rfl, Below.refl _ _, fun j x hj => absurd hj (Nat.not_lt_zero _)⟩
    case round =>
      obtain ⟨i, hi, rfl, rfl, hb, hno⟩ := hrel
      have hBw : Below w.heap.size w wr := B0.trans (hb.mono (Nat.le_succ _))
      by_cases hlt : i < p.steps.length
      · obtain ⟨x, hx⟩ : ∃ x, p.steps[i]? = some x := ⟨p.steps[i], List.getElem?_eq_getElem hlt⟩
        have hii : (i : Int) < p.steps.length := by omega
        have gx := hS i x hx
        have hbi := hBi i hi
        have hbt := bindsOf_take hx
        have hok := stepE_cases p.steps i x
        have sr := hs.below hBw
        have hX := X0.below hb (by omega)
        obtain ⟨b, rfl, hbb, d0, d1, d2, d3, d4⟩ := sr i x hx
        have A1 := (Below.refl wr.heap.size wr).alloc (Nat.le_refl _) (.cells #[.int .u8 x.kind.toNat, .int .u8 x.name.toNat, .bool x.neg, .int .i64 x.lo, .int .i64 x.hi] 342)
        have s2 := sr.below A1
        have Y0 := Lb.new wr #[.int .u8 x.kind.toNat, .int .u8 x.name.toNat, .bool x.neg, .int .i64 x.lo, .int .i64 x.hi] 342
        have hX2 := hX.alloc (.cells #[.int .u8 x.kind.toNat, .int .u8 x.name.toNat, .bool x.neg, .int .i64 x.lo, .int .i64 x.hi] 342)
        have i0 := hX2.cell 0 _ rfl
        have i1 := hX2.cell 1 _ rfl
        have i2 := hX2.cell 2 _ rfl
        have HX := Lib.hid hx
        have HN := Lib.hid hno
        have HT := Lib.hid hbt
        have g1' := gx.l1
        have g2' := gx.l2
        have g3' := gx.l3
        have hwr : w.heap.size + 1 ≤ wr.heap.size := by have := hb.size; simpa using this
        clear hx hno hbt
        rcases hok with hE | hE | hE
        · rcases hng : x.neg with _ | _
          ·
            have HE := Lib.hid hE
            have HNG := Lib.hid hng
            clear hE hng
            rw [HNG.out] at HT
            go_wp2_with (go_at_call 256; refine (pstep_is _ g2 c1 p.conds.length c2 i p.within p.steps x _ (by omega) (by exact s2) HX.out gx 0 HE.out).mono ?_; rintro e w2 ⟨rfl, hb2⟩; have Y2 := Y0.below hb2 Y0.lt; have y2 := Y2.cell 2 _ rfl; have y4 := Y2.cell 4 _ rfl; rw [HNG.out] at y2)
            go_roundw
            case rel =>
              refine ⟨i + 1, by omega, by go_num, ?_, hb.trans ((A1.trans (hb2.mono A1.size)).mono hwr), fun j y hj hy => ?_⟩
              · rw [HT.out]; simp
              · by_cases hji : j = i
                · subst hji; rw [HX.out] at hy; injection hy with hy; subst hy; exact HE.out
                · exact HN.out j y (by omega) hy
            case measure => simp [intOf]; omega
          ·
            have HE := Lib.hid hE
            have HNG := Lib.hid hng
            clear hE hng
            rw [HNG.out] at HT
            go_wp2_with (go_at_call 256; refine (pstep_is _ g2 c1 p.conds.length c2 i p.within p.steps x _ (by omega) (by exact s2) HX.out gx 0 HE.out).mono ?_; rintro e w2 ⟨rfl, hb2⟩; have Y2 := Y0.below hb2 Y0.lt; have y2 := Y2.cell 2 _ rfl; have y4 := Y2.cell 4 _ rfl; rw [HNG.out] at y2)
            go_roundw
            case rel =>
              refine ⟨i + 1, by omega, by go_num, ?_, hb.trans ((A1.trans (hb2.mono A1.size)).mono hwr), fun j y hj hy => ?_⟩
              · rw [HT.out]; simp
              · by_cases hji : j = i
                · subst hji; rw [HX.out] at hy; injection hy with hy; subst hy; exact HE.out
                · exact HN.out j y (by omega) hy
            case measure => simp [intOf]; omega
        ·
          have HE := Lib.hid hE
          have HNG := Lib.hid (rfl : x.neg = x.neg)
          clear hE
          go_wp2_with (go_at_call 256; refine (pstep_is _ g2 c1 p.conds.length c2 i p.within p.steps x _ (by omega) (by exact s2) HX.out gx 21 HE.out).mono ?_; rintro e w2 ⟨rfl, hb2⟩; have Y2 := Y0.below hb2 Y0.lt; have y2 := Y2.cell 2 _ rfl; have y4 := Y2.cell 4 _ rfl; rw [HNG.out] at y2)
          refine bodyPost_ret (v := .tuple #[.int .i64 i, .int .i64 21]) (by simp only [results, Tryz.results171]; simp [go_sem]) rfl ?_
          exact ChkR.bad (.inl rfl) (fun h => by have h1 := h.1 i x HX.out; rw [HE.out] at h1; cases h1) (hBw.trans ((A1.trans (hb2.mono A1.size)).mono hBw.size))
        ·
          have HE := Lib.hid hE
          have HNG := Lib.hid (rfl : x.neg = x.neg)
          clear hE
          go_wp2_with (go_at_call 256; refine (pstep_is _ g2 c1 p.conds.length c2 i p.within p.steps x _ (by omega) (by exact s2) HX.out gx 23 HE.out).mono ?_; rintro e w2 ⟨rfl, hb2⟩; have Y2 := Y0.below hb2 Y0.lt; have y2 := Y2.cell 2 _ rfl; have y4 := Y2.cell 4 _ rfl; rw [HNG.out] at y2)
          refine bodyPost_ret (v := .tuple #[.int .i64 i, .int .i64 23]) (by simp only [results, Tryz.results171]; simp [go_sem]) rfl ?_
          exact ChkR.bad (.inr (.inl rfl)) (fun h => by have h1 := h.1 i x HX.out; rw [HE.out] at h1; cases h1) (hBw.trans ((A1.trans (hb2.mono A1.size)).mono hBw.size))
      · have hii : ¬ (i : Int) < p.steps.length := by omega
        have hil : i = p.steps.length := by omega
        subst hil
        have HN := Lib.hid hno
        clear hno
        rw [List.take_length] at *
        go_wp2
        go_meet
        exact ⟨rfl, hb, fun j x hx => HN.out j x (List.getElem?_eq_some_iff.1 hx).1 hx⟩
  case rest =>
    obtain ⟨rfl, hb, hok⟩ := hcut
    have hbb := (hBi _ (Nat.le_refl _))
    rw [List.take_length] at hbb
    have hBw : Below w.heap.size w wc := B0.trans (hb.mono (Nat.le_succ _))
    have hX := X0.below hb (by omega)
    have i0 := hX.cell 0 _ rfl
    have i1 := hX.cell 1 _ rfl
    have i2 := hX.cell 2 _ rfl
    have HO := Lib.hid hok
    clear hok
    by_cases h16 : 16 < bindsOf p.steps
    · have HB : Okay p → False := fun h => by have := h.2.1; omega
      generalize bindsOf p.steps = N at *
      have HB' := Lib.hid HB
      clear HB
      go_wp2
      refine bodyPost_ret (v := .tuple #[.int .i64 0, .int .i64 24]) (by simp only [results, Tryz.results171]; simp [go_sem]) rfl ?_
      exact ChkR.bad (.inr (.inr rfl)) HB'.out hBw
    · have h16' : bindsOf p.steps ≤ 16 := by omega
      clear h16
      have HB := Lib.hid h16'
      obtain ⟨N, hN⟩ : ∃ N, bindsOf p.steps = N := ⟨_, rfl⟩
      rw [hN] at h16' hbb ⊢
      clear hN
      go_wp2_with fail
      go_loopw [65] (fun v65 wr => ∃ i : Nat, i ≤ p.conds.length ∧ v65 = .int .i64 i ∧ Below (w.heap.size + 1) (w.alloc (.cells #[.slice g1 p.steps.length c1, .slice g2 p.conds.length c2, .int .i64 p.within] 242)) wr ∧ ∀ (j : Nat) c, j < i → p.conds[j]? = some c → condE p.steps c = 0) (fun v65 _ => 30 - (intOf v65).toNat)
      case atStart => exact ⟨0, Nat.zero_le _, rfl, hb, fun j x hj => absurd hj (Nat.not_lt_zero _)⟩
      case round =>
        obtain ⟨i, hi, rfl, hb', hno⟩ := hrel
        have hBr : Below w.heap.size w wr := B0.trans (hb'.mono (Nat.le_succ _))
        have hXr := X0.below hb' (by omega)
        by_cases hlt : i < p.conds.length
        · obtain ⟨x, hx⟩ : ∃ x, p.conds[i]? = some x := ⟨p.conds[i], List.getElem?_eq_getElem hlt⟩
          have hii : (i : Int) < p.conds.length := by omega
          have gx := hC i x hx
          have hok := condE_cases p.steps x
          have sr := hs.below hBr
          have cr := hc.below hBr
          obtain ⟨b, rfl, hbb', d0, d1, d2, d3⟩ := cr i x hx
          have A1 := (Below.refl wr.heap.size wr).alloc (Nat.le_refl _) (.cells #[.int .u8 x.left.toNat, .int .i64 x.op, .int .u8 x.right.toNat, .int .i64 x.add] 350)
          have s2 := sr.below A1
          have hX2 := hXr.alloc (.cells #[.int .u8 x.left.toNat, .int .i64 x.op, .int .u8 x.right.toNat, .int .i64 x.add] 350)
          have j0 := hX2.cell 0 _ rfl
          have j1 := hX2.cell 1 _ rfl
          have j2 := hX2.cell 2 _ rfl
          have HX := Lib.hid hx
          have HN := Lib.hid hno
          have hwr : w.heap.size + 1 ≤ wr.heap.size := by have := hb'.size; simpa using this
          clear hx hno
          rcases hok with hE | hE | hE
          · have HE := Lib.hid hE
            clear hE
            go_wp2_with (go_at_call 257; refine (pcond_is g1 _ c1 p.conds.length c2 p.within p.steps x _ (by omega) (by exact s2) gx 0 HE.out).mono ?_; rintro e w2 ⟨rfl, hb2⟩; have X2 := hX2.below hb2 (by have := hX2.lt; exact this); have m0 := X2.cell 0 _ rfl)
            go_roundw
            case rel =>
              refine ⟨i + 1, by omega, by go_num, hb'.trans ((A1.trans (hb2.mono A1.size)).mono hwr), fun j y hj hy => ?_⟩
              by_cases hji : j = i
              · subst hji; rw [HX.out] at hy; injection hy with hy; subst hy; exact HE.out
              · exact HN.out j y (by omega) hy
            case measure => simp [intOf]; omega
          · have HE := Lib.hid hE
            clear hE
            go_wp2_with (go_at_call 257; refine (pcond_is g1 _ c1 p.conds.length c2 p.within p.steps x _ (by omega) (by exact s2) gx 21 HE.out).mono ?_; rintro e w2 ⟨rfl, hb2⟩; have X2 := hX2.below hb2 (by have := hX2.lt; exact this); have m0 := X2.cell 0 _ rfl)
            refine bodyPost_ret (v := .tuple #[.int .i64 (p.steps.length + i), .int .i64 21]) (by simp only [results, Tryz.results171]; simp [go_sem]) rfl ?_
            exact ChkR.bad (.inl rfl) (fun h => by have h1 := h.2.2 i x HX.out; rw [HE.out] at h1; cases h1) (hBr.trans ((A1.trans (hb2.mono A1.size)).mono hBr.size))
          · have HE := Lib.hid hE
            clear hE
            go_wp2_with (go_at_call 257; refine (pcond_is g1 _ c1 p.conds.length c2 p.within p.steps x _ (by omega) (by exact s2) gx 23 HE.out).mono ?_; rintro e w2 ⟨rfl, hb2⟩; have X2 := hX2.below hb2 (by have := hX2.lt; exact this); have m0 := X2.cell 0 _ rfl)
            refine bodyPost_ret (v := .tuple #[.int .i64 (p.steps.length + i), .int .i64 23]) (by simp only [results, Tryz.results171]; simp [go_sem]) rfl ?_
            exact ChkR.bad (.inr (.inl rfl)) (fun h => by have h1 := h.2.2 i x HX.out; rw [HE.out] at h1; cases h1) (hBr.trans ((A1.trans (hb2.mono A1.size)).mono hBr.size))
        · have hii : ¬ (i : Int) < p.conds.length := by omega
          have hil : i = p.conds.length := by omega
          subst hil
          have HN := Lib.hid hno
          clear hno
          go_wp2
          refine bodyPost_ret (v := .tuple #[.int .i64 0, .int .i64 0]) (by simp only [results, Tryz.results171]; simp [go_sem]) rfl ?_
          exact ⟨⟨0, 0, rfl, .inl ⟨rfl, HO.out, HB.out, fun j x hx => HN.out j x (List.getElem?_eq_some_iff.1 hx).1 hx⟩⟩, hBr⟩
end Go.Proofs.YthbiiccblcoogaaGreatDoor
