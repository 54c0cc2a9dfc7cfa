/- plan.Compile of what can't be run. -/
import Derived.Test.YthbiiccblcoogaaGreatDoorPlanE
set_option linter.unusedVariables false
set_option linter.unusedSimpArgs false
namespace Go.Proofs.YthbiiccblcoogaaGreatDoor
open Go.RowKit

/-- Compile gives an error. -/
def CompR (w : World) (e : Ending) (w' : World) : Prop :=
  (∃ E, e = .returned (.tuple #[.agg #[.slice none 0 0, .int .i64 0], .int .i64 E]) ∧ ErrE E) ∧ Below w.heap.size w w'

set_option maxRecDepth 100000 in
set_option maxHeartbeats 1600000 in
theorem compile_text (s : ByteArray) (w : World) (hx : Pat.parse s.data.toList = none) : Calls Tryz.prog 67 #[.string s] w (CompR w) := by
  have HX := Lib.hid hx
  clear hx
  go_enter Tryz.func67, Tryz.ntmps67
  go_wp2_with fail
  refine (parse_any s _).mono ?_
  rw [HX.out]
  rintro e w1 ⟨a, c, rfl, hc, hb⟩
  have h0 : (c == 0) = false := by rcases hc with rfl | rfl | rfl | rfl <;> rfl
  have h1 : (c != 0) = true := by simp [bne, h0]
  have hErr : ErrE c := by unfold ErrE; rcases hc with rfl | rfl | rfl | rfl <;> decide
  have HErr := Lib.hid hErr
  have B1 := (Below.refl w.heap.size w).alloc (Nat.le_refl _) (.cells #[.slice none 0 0, .int .i64 0] 95)
  have Y1 := (Lb.new w #[.slice none 0 0, .int .i64 0] 95).below hb (by simp)
  have Y2 := Y1.alloc (.cells #[.slice none 0 0, .slice none 0 0, .int .i64 0] 242)
  have y0 := Y2.cell 0 _ rfl
  have y1 := Y2.cell 1 _ rfl
  have yf := fun i => Y2.frozen i
  have hB := B1.trans (hb.mono B1.size)
  have B2 := hB.alloc hB.size (.cells #[.slice none 0 0, .slice none 0 0, .int .i64 0] 242)
  have zlt := Y1.lt
  have u0 := Y1.cell 0 _ rfl
  have u1 := Y1.cell 1 _ rfl
  have uf := fun i => Y1.frozen i
  have zne : ¬ w.heap.size = w1.heap.size := by omega
  clear hErr hc B1 hb
  go_wp2
  have Z := ((Y1.set 0 (.slice none 0 0)).set 1 (.int .i64 0)).alloc (.cells #[.slice none 0 0, .slice none 0 0, .int .i64 0] 242)
  have q0 := Z.cell 0 _ rfl
  have q1 := Z.cell 1 _ rfl
  refine bodyPost_ret (v := .tuple #[.agg #[.slice none 0 0, .int .i64 0], .int .i64 c]) (by simp only [results, Tryz.results67]; simp [go_sem, q0, q1]) rfl ?_
  exact ⟨⟨c, rfl, HErr.out⟩, ((hB.setCell (p := ⟨w.heap.size, 0, none⟩) (Nat.le_refl _) _).setCell (p := ⟨w.heap.size, 1, none⟩) (Nat.le_refl _) _).alloc (by simpa using hB.size) _⟩

set_option maxRecDepth 100000 in
set_option maxHeartbeats 1600000 in
theorem compile_plan (s : ByteArray) (w : World) (p : Pat.Pattern) (hx : Pat.parse s.data.toList = some p) (gp : GoodP p) (ho : ¬ Okay p) : Calls Tryz.prog 67 #[.string s] w (CompR w) := by
  have HX := Lib.hid hx
  have GP := Lib.hid gp
  have HO := Lib.hid ho
  clear hx gp ho
  go_enter Tryz.func67, Tryz.ntmps67
  go_wp2_with fail
  refine (parse_any s _).mono ?_
  rw [HX.out]
  rintro e w1 ⟨v1, v2, rfl, hb, own1, own2⟩
  obtain ⟨g1, c1, rfl⟩ := own_slice own1
  obtain ⟨g2, c2, rfl⟩ := own_slice own2
  have B1 := (Below.refl w.heap.size w).alloc (Nat.le_refl _) (.cells #[.slice none 0 0, .int .i64 0] 95)
  have Y1 := (Lb.new w #[.slice none 0 0, .int .i64 0] 95).below hb (by simp)
  have Y2 := Y1.alloc (.cells #[.slice g1 p.steps.length c1, .slice g2 p.conds.length c2, .int .i64 p.within] 242)
  have zlt := Y2.lt
  have hB := B1.trans (hb.mono B1.size)
  have B2 := hB.alloc hB.size (.cells #[.slice g1 p.steps.length c1, .slice g2 p.conds.length c2, .int .i64 p.within] 242)
  have A := (Below.refl w1.heap.size w1).alloc (Nat.le_refl _) (.cells #[.slice g1 p.steps.length c1, .slice g2 p.conds.length c2, .int .i64 p.within] 242)
  have s2 := (Sv.of_own own1).below A
  have k2 := (Cv.of_own own2).below A
  clear B1 Y1 hb hB A own1 own2
  go_wp2_with fail
  refine (make_bad g1 g2 c1 c2 p _ GP.out (by exact s2) (by exact k2) HO.out).mono ?_
  rintro e w3 ⟨⟨a, E, rfl, hE⟩, hb3⟩
  have HE := Lib.hid hE
  have Y3 := Y2.below hb3 Y2.lt
  have y0 := Y3.cell 0 _ rfl
  have y1 := Y3.cell 1 _ rfl
  have yf := fun i => Y3.frozen i
  have B3 := B2.trans (hb3.mono B2.size)
  have zlt3 := Y3.lt
  have zne : ¬ w.heap.size = w3.heap.size := by omega
  clear hE s2 k2 HX GP HO
  go_wp2
  have Z := ((Y3.set 0 (.slice none 0 0)).set 1 (.int .i64 0)).alloc (.cells #[.slice none 0 0, .int .i64 0] 95)
  have q0 := Z.cell 0 _ rfl
  have q1 := Z.cell 1 _ rfl
  refine bodyPost_ret (v := .tuple #[.agg #[.slice none 0 0, .int .i64 0], .int .i64 E]) (by simp only [results, Tryz.results67]; simp [go_sem, q0, q1]) rfl ?_
  exact ⟨⟨E, rfl, HE.out⟩, ((B3.setCell (p := ⟨w.heap.size, 0, none⟩) (Nat.le_refl _) _).setCell (p := ⟨w.heap.size, 1, none⟩) (Nat.le_refl _) _).alloc (by simpa using B3.size) _⟩

/-! A pattern that was read keeps its bounds. -/
theorem number_ge {l : List UInt8} {n q : Nat} {v : Int} {ul : UInt8} (hul : 48 ≤ ul.toNat) (h : Pat.number l ul n = some (v, q)) : 0 ≤ v ∧ v < 1000000000 := ⟨(number_bd hul h).1, (number_bd hul h).2.1⟩
theorem step_good {l : List UInt8} {A n q : Nat} {x : Pat.Step} (h : Pat.step l A n = some (x, q)) : GoodS x ∧ A ≠ 8 := by
  unfold Pat.step at h
  split at h; · cases h
  rename_i hA
  refine ⟨?_, hA⟩
  simp only at h
  split at h; · cases h
  rename_i k a1 h1
  split at h; · cases h
  split at h; · cases h
  rename_i nm a3 h3
  have e1 := (one_le h1).2.2
  have e3 := (one_le h3).2.2
  have c1 : ((65 : UInt8).toNat : Int) = 65 := rfl
  have c2 : ((90 : UInt8).toNat : Int) = 90 := rfl
  have c3 : ((97 : UInt8).toNat : Int) = 97 := rfl
  have c4 : ((122 : UInt8).toNat : Int) = 122 := rfl
  rw [c1, c2] at e1
  rw [c3, c4] at e3
  split at h
  · split at h; · cases h
    split at h; · cases h
    split at h; · cases h
    split at h; · cases h
    split at h; · cases h
    split at h
    · cases h
    · rename_i hno
      injection h with h; injection h with h _; subst h
      simp only [not_or] at hno
      exact ⟨e1.1, e1.2, e3.1, e3.2, by dsimp only; omega, by dsimp only; omega, by dsimp only; omega, fun h => by cases h⟩
  · injection h with h; injection h with h _; subst h
    exact ⟨e1.1, e1.2, e3.1, e3.2, by dsimp only; omega, by dsimp only; omega, by dsimp only; omega, fun _ => ⟨rfl, rfl⟩⟩
theorem op_rng {l : List UInt8} {n q : Nat} {v : Int} (h : Pat.op l n = some (v, q)) : 0 ≤ v ∧ v ≤ 5 := by
  unfold Pat.op at h
  repeat' split at h
  all_goals first | (cases h; done) | (injection h with h; injection h with h _; subst h; exact ⟨by decide, by decide⟩)
theorem cond_good {l : List UInt8} {A n q : Nat} {x : Pat.Cond} (h : Pat.cond l A n = some (x, q)) : GoodC x ∧ A ≠ 16 := by
  unfold Pat.cond at h
  split at h; · cases h
  rename_i hA
  refine ⟨?_, hA⟩
  split at h; · cases h
  split at h; · cases h
  rename_i o a2 ho
  have eo := op_rng ho
  repeat' split at h
  all_goals first
    | (cases h; done)
    | (rename_i hh
       have e := number_ge (by decide) hh
       injection h with h; injection h with h _; subst h
       exact ⟨eo.1, eo.2, by dsimp only; omega, by dsimp only; omega⟩)
    | (injection h with h; injection h with h _; subst h
       exact ⟨eo.1, eo.2, by dsimp only; omega, by dsimp only; omega⟩)

theorem steps_good {s : List UInt8} : ∀ {f : Nat} {l st : List Pat.Step} {a q : Nat}, l.length + f = 9 → (∀ x ∈ l, GoodS x) → Pat.steps s f l a = some (st, q) → (1 ≤ st.length ∧ st.length ≤ 8 ∧ ∀ x ∈ st, GoodS x)
  | 0, _, _, _, _, _, _, h => by simp [Pat.steps] at h
  | f + 1, l, st, a, q, hl, hg, h => by
    rw [Pat.steps] at h
    split at h; · cases h
    rename_i x q1 hx
    obtain ⟨gx, hA⟩ := step_good hx
    have hg' : ∀ y ∈ l ++ [x], GoodS y := by
      intro y hy
      rcases List.mem_append.1 hy with hy | hy
      · exact hg y hy
      · simp at hy; subst hy; exact gx
    have hlen : (l ++ [x]).length = l.length + 1 := by simp
    split at h
    · exact steps_good (by rw [hlen]; omega) hg' h
    · injection h with h; injection h with h _; subst h
      exact ⟨by rw [hlen]; omega, by rw [hlen]; omega, hg'⟩
theorem conds_good {s : List UInt8} : ∀ {f : Nat} {l st : List Pat.Cond} {a q : Nat}, l.length + f = 17 → (∀ x ∈ l, GoodC x) → Pat.conds s f l a = some (st, q) → (st.length ≤ 16 ∧ ∀ x ∈ st, GoodC x)
  | 0, _, _, _, _, _, _, h => by simp [Pat.conds] at h
  | f + 1, l, st, a, q, hl, hg, h => by
    rw [Pat.conds] at h
    split at h; · cases h
    rename_i x q1 hx
    obtain ⟨gx, hA⟩ := cond_good hx
    have hg' : ∀ y ∈ l ++ [x], GoodC y := by
      intro y hy
      rcases List.mem_append.1 hy with hy | hy
      · exact hg y hy
      · simp at hy; subst hy; exact gx
    have hlen : (l ++ [x]).length = l.length + 1 := by simp
    split at h; · cases h
    split at h
    · split at h; · cases h
      exact conds_good (by rw [hlen]; omega) hg' h
    · injection h with h; injection h with h _; subst h
      exact ⟨by rw [hlen]; omega, hg'⟩
theorem tail_good {s : List UInt8} {st : List Pat.Step} {cs : List Pat.Cond} {a q : Nat} {p : Pat.Pattern} (h1 : 1 ≤ st.length ∧ st.length ≤ 8 ∧ ∀ x ∈ st, GoodS x) (h2 : cs.length ≤ 16 ∧ ∀ x ∈ cs, GoodC x)
    (h : pTail s st cs a = some (p, q)) : GoodP p := by
  unfold pTail at h
  split at h; · cases h
  split at h; · cases h
  rename_i n c hn
  have e := number_ge (by decide) hn
  injection h with h; injection h with h _; subst h
  exact ⟨h1.1, h1.2.1, h2.1, e.1, e.2, fun i x hx => h1.2.2 x (List.mem_of_getElem? hx), fun i x hx => h2.2 x (List.mem_of_getElem? hx)⟩
theorem pattern_good {s : List UInt8} {p : Pat.Pattern} {q : Nat} (h : Pat.pattern s = some (p, q)) : GoodP p := by
  rw [pattern_eq] at h
  split at h; · cases h
  unfold pStep at h
  split at h; · cases h
  rename_i st a2 hst
  have g1 := steps_good (l := []) rfl (fun x hx => by simp at hx) hst
  unfold pAfter at h
  split at h; · cases h
  split at h
  · split at h; · cases h
    unfold pCond at h
    split at h; · cases h
    rename_i cs a5 hcs
    have g2 := conds_good (l := []) rfl (fun x hx => by simp at hx) hcs
    unfold pEnd at h
    split at h; · cases h
    exact tail_good g1 g2 h
  · exact tail_good g1 ⟨by simp, fun x hx => by simp at hx⟩ h
theorem parse_good {s : List UInt8} {p : Pat.Pattern} (h : Pat.parse s = some p) : GoodP p := by
  unfold Pat.parse at h
  split at h; · cases h
  split at h; · cases h
  rename_i x q hx
  split at h; · cases h
  injection h with h; subst h
  exact pattern_good hx

/-- Compile of a text that can't be planned. -/
theorem compile_bad (s : ByteArray) (w : World) (h : ∀ p, Pat.parse s.data.toList = some p → ¬ Okay p) : Calls Tryz.prog 67 #[.string s] w (CompR w) := by
  rcases hx : Pat.parse s.data.toList with _ | p
  · exact compile_text s w hx
  · exact compile_plan s w p hx (parse_good hx) (h p hx)
end Go.Proofs.YthbiiccblcoogaaGreatDoor
