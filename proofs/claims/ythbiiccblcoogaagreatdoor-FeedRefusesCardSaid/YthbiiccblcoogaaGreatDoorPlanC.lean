/- plan.cond. -/
import Derived.Test.YthbiiccblcoogaaGreatDoorPlanB
set_option linter.unusedVariables false
set_option linter.unusedSimpArgs false
namespace Go.Proofs.YthbiiccblcoogaaGreatDoor
open Go.RowKit

theorem find_on (W0 : World) (g1 g2 : Option Addr) (c1 m2 c2 : Nat) (wi : Int) (l : List Pat.Step) (n : UInt8) (C : Int) (hC : C = n.toNat) (w : World) (hl : l.length ≤ 1000) (hs : Sv W0 g1 l) (hw : Below W0.heap.size W0 w) :
    Calls Tryz.prog 172 #[.agg #[.slice g1 l.length c1, .slice g2 m2 c2, .int .i64 wi], .int .u8 C] w fun e w' => e = .returned (.int .i64 (pfind l n)) ∧ Below W0.heap.size W0 w' :=
  (find_any g1 g2 c1 m2 c2 wi l n C hC w hl (hs.below hw)).mono fun _ _ ⟨a, b⟩ => ⟨a, hw.trans (b.mono hw.size)⟩

theorem pfind_lt {l : List Pat.Step} {n : UInt8} (h : 0 ≤ pfind l n) : ∃ i x, pfind l n = ((i : Nat) : Int) ∧ l[i]? = some x := by
  unfold pfind at *
  split at h
  · rename_i i hi
    rw [List.findIdx?_eq_some_iff_getElem] at hi
    obtain ⟨h1, _⟩ := hi
    exact ⟨i, l[i], rfl, List.getElem?_eq_getElem h1⟩
  · omega

/-- What is wrong with a condition of a pattern that was read. -/
def condE (l : List Pat.Step) (c : Pat.Cond) : Int :=
  if pfind l c.left < 0 then 21 else
  if c.right = 0 then 0 else
  if pfind l c.right < 0 then 21 else
  if (l[(min (pfind l c.left) (pfind l c.right)).toNat]?.map (·.neg)) = some true then 23 else 0

set_option maxRecDepth 100000 in
set_option maxHeartbeats 3200000 in
theorem pcond_any (g1 g2 : Option Addr) (c1 m2 c2 : Nat) (wi : Int) (l : List Pat.Step) (c : Pat.Cond) (w : World) (hl : l.length ≤ 1000) (hs : Sv w g1 l) (gc : GoodC c) :
    Calls Tryz.prog 257 #[.agg #[.slice g1 l.length c1, .slice g2 m2 c2, .int .i64 wi], .agg #[.int .u8 c.left.toNat, .int .i64 c.op, .int .u8 c.right.toNat, .int .i64 c.add]] w fun e w' => e = .returned (.int .i64 (condE l c)) ∧ Below w.heap.size w w' := by
  obtain ⟨E, hE⟩ : ∃ E, condE l c = E := ⟨_, rfl⟩
  rw [hE]
  have HE := Lib.hid hE
  obtain ⟨o1, o2, a1, a2⟩ := gc
  obtain ⟨CL, hCL⟩ : ∃ C : Int, (c.left.toNat : Int) = C := ⟨_, rfl⟩
  obtain ⟨CR, hCR⟩ : ∃ C : Int, (c.right.toNat : Int) = C := ⟨_, rfl⟩
  rw [hCL, hCR]
  have HL := Lib.hid hCL
  have HR := Lib.hid hCR
  clear hE hCL hCR
  have B0 := ((Below.refl w.heap.size w).alloc (Nat.le_refl _) (.cells #[.slice g1 l.length c1, .slice g2 m2 c2, .int .i64 wi] 242)).alloc (by simp) (.cells #[.int .u8 CL, .int .i64 c.op, .int .u8 CR, .int .i64 c.add] 350)
  have X0 := (Lb.new w #[.slice g1 l.length c1, .slice g2 m2 c2, .int .i64 wi] 242).alloc (.cells #[.int .u8 CL, .int .i64 c.op, .int .u8 CR, .int .i64 c.add] 350)
  have Y0 := Lb.new (w.alloc (.cells #[.slice g1 l.length c1, .slice g2 m2 c2, .int .i64 wi] 242)) #[.int .u8 CL, .int .i64 c.op, .int .u8 CR, .int .i64 c.add] 350
  simp only [sz_alloc] at Y0
  have s0 := hs.below B0
  go_enter Tryz.func257, Tryz.ntmps257
  go_wp2_with fail
  generalize hW : (w.alloc (.cells #[.slice g1 l.length c1, .slice g2 m2 c2, .int .i64 wi] 242)).alloc (.cells #[.int .u8 CL, .int .i64 c.op, .int .u8 CR, .int .i64 c.add] 350) = W at *
  clear hW
  have BD : Below W.heap.size W W.drew := (Below.refl _ W).drew
  have kp : ∀ w', Below W.heap.size W w' → (w'.cell? ⟨w.heap.size, 0, none⟩ = some (.slice g1 l.length c1) ∧ w'.cell? ⟨w.heap.size, 1, none⟩ = some (.slice g2 m2 c2) ∧ w'.cell? ⟨w.heap.size, 2, none⟩ = some (.int .i64 wi) ∧
      w'.cell? ⟨w.heap.size + 1, 0, none⟩ = some (.int .u8 CL) ∧ w'.cell? ⟨w.heap.size + 1, 2, none⟩ = some (.int .u8 CR)) :=
    fun w' h => ⟨(X0.below h X0.lt).cell 0 _ rfl, (X0.below h X0.lt).cell 1 _ rfl, (X0.below h X0.lt).cell 2 _ rfl, (Y0.below h Y0.lt).cell 0 _ rfl, (Y0.below h Y0.lt).cell 2 _ rfl⟩
  go_cut [5, 6] (fun s5 s6 wr => s5 = .int .i64 (pfind l c.left) ∧ s6 = .int .i64 (pfind l c.right) ∧ Below W.heap.size W wr)
  case first =>
    go_region_held3 (fun w' => w'.cell? ⟨w.heap.size, 0, none⟩ = some (.slice g1 l.length c1) ∧ w'.cell? ⟨w.heap.size, 1, none⟩ = some (.slice g2 m2 c2) ∧ w'.cell? ⟨w.heap.size, 2, none⟩ = some (.int .i64 wi) ∧
      w'.cell? ⟨w.heap.size + 1, 0, none⟩ = some (.int .u8 CL) ∧ w'.cell? ⟨w.heap.size + 1, 2, none⟩ = some (.int .u8 CR)) (first | exact kp _ hb2 | exact kp _ BD)
      (first | (go_at_call 172; refine (find_on W g1 g2 c1 m2 c2 wi l c.left CL HL.out.symm _ hl s0 (by first | exact hb2 | exact BD)).mono ?_; rintro e w2 ⟨rfl, hb2⟩) | (go_at_call 172; refine (find_on W g1 g2 c1 m2 c2 wi l c.right CR HR.out.symm _ hl s0 (by first | exact hb2 | exact BD)).mono ?_; rintro e w2 ⟨rfl, hb2⟩))
    all_goals
      go_wp2
      go_meet
      exact ⟨rfl, rfl, hb2⟩
  case rest =>
    obtain ⟨rfl, rfl, hb2⟩ := hcut
    have X2 := X0.below hb2 X0.lt
    have Y2 := Y0.below hb2 Y0.lt
    have r0 := X2.cell 0 _ rfl
    have n0 := Y2.cell 0 _ rfl
    have n1 := Y2.cell 1 _ rfl
    have n2 := Y2.cell 2 _ rfl
    have n3 := Y2.cell 3 _ rfl
    have hB : Below w.heap.size w wc := B0.trans (hb2.mono B0.size)
    have s2 := s0.below hb2
    have hE := HE.out
    unfold condE at hE
    have pl := @pfind_lt l c.left
    have pr := @pfind_lt l c.right
    have hcr : (c.right = 0) ↔ CR = 0 := by
      rw [← HR.out]
      constructor
      · intro h; rw [h]; rfl
      · intro h; exact UInt8.toNat_inj.1 (by rw [show (0 : UInt8).toNat = 0 from rfl]; omega)
    clear HE HL HR X0 Y0 X2 Y2 B0 BD kp
    generalize pfind l c.left = FL at *
    generalize pfind l c.right = FR at *
    by_cases h1 : FL < 0
    · rw [if_pos h1] at hE
      subst hE
      clear pl pr hcr
      go_wp2
      go_ret
      exact ⟨rfl, hB⟩
    rw [if_neg h1] at hE
    have h1' : 0 ≤ FL := by omega
    clear h1
    by_cases h2 : CR = 0
    · rw [if_pos (hcr.2 h2)] at hE
      subst hE
      subst h2
      clear pl pr hcr
      go_wp2
      go_ret
      exact ⟨rfl, hB⟩
    rw [if_neg (fun h => h2 (hcr.1 h))] at hE
    have h2b : (CR == 0) = false := beq_eq_false_iff_ne.2 h2
    have h2n : (CR != 0) = true := by simp [bne, h2b]
    clear h2 hcr
    by_cases h3 : FR < 0
    · rw [if_pos h3] at hE
      subst hE
      clear pl pr
      go_wp2
      go_ret
      exact ⟨rfl, hB⟩
    rw [if_neg h3] at hE
    have h3' : 0 ≤ FR := by omega
    clear h3
    obtain ⟨i, x, rfl, hx⟩ := pl h1'
    obtain ⟨j, y, rfl, hy⟩ := pr h3'
    clear pl pr
    obtain ⟨b, rfl, hbb, d0, d1, d2, d3, d4⟩ := s2 i x hx
    obtain ⟨b', hb', hbb', f0, f1, f2, f3, f4⟩ := s2 j y hy
    injection hb' with hb'
    injection hb' with hb'
    subst hb'
    have hi : i < l.length := (List.getElem?_eq_some_iff.1 hx).1
    have hj : j < l.length := (List.getElem?_eq_some_iff.1 hy).1
    have hii : (i : Int) < l.length := by omega
    have hjj : (j : Int) < l.length := by omega
    by_cases hij : (i : Int) ≤ j
    · rw [show (min (i : Int) j).toNat = i by omega, hx] at hE
      have HX := Lib.hid hx
      have HY := Lib.hid hy
      clear hx hy
      rcases hn : x.neg with _ | _
      · rw [hn] at d2
        rw [if_neg (by rw [Option.map_some, hn]; simp)] at hE
        subst hE
        rcases hm : y.neg with _ | _
        · rw [hm] at f2
          go_wp2
          all_goals
            go_ret
            exact ⟨rfl, hB⟩
        · rw [hm] at f2
          have hne : i ≠ j := fun e => by
            have h1 := HX.out
            have h2 := HY.out
            rw [e, h2] at h1
            injection h1 with h1
            first | (rw [h1, hn] at hm; cases hm) | (rw [← h1, hn] at hm; cases hm) | (rw [h1, hm] at hn; cases hn) | (rw [← h1, hm] at hn; cases hn)
          have hne1 : ((i : Int) == j) = false := beq_eq_false_iff_ne.2 (by omega)
          have hne2 : ((j : Int) == i) = false := beq_eq_false_iff_ne.2 (by omega)
          have hlt : (i : Int) < j := by omega
          go_wp2
          all_goals
            go_ret
            exact ⟨rfl, hB⟩
      · rw [hn] at d2
        rw [if_pos (by rw [Option.map_some, hn])] at hE
        subst hE
        go_wp2
        all_goals
          go_ret
          exact ⟨rfl, hB⟩
    · rw [show (min (i : Int) j).toNat = j by omega, hy] at hE
      have hlt : (j : Int) < i := by omega
      have HX := Lib.hid hx
      have HY := Lib.hid hy
      clear hx hy
      rcases hn : y.neg with _ | _
      · rw [hn] at f2
        rw [if_neg (by rw [Option.map_some, hn]; simp)] at hE
        subst hE
        rcases hm : x.neg with _ | _
        · rw [hm] at d2
          go_wp2
          all_goals
            go_ret
            exact ⟨rfl, hB⟩
        · rw [hm] at d2
          have hne : i ≠ j := fun e => by
            have h1 := HX.out
            have h2 := HY.out
            rw [e, h2] at h1
            injection h1 with h1
            first | (rw [h1, hn] at hm; cases hm) | (rw [← h1, hn] at hm; cases hm) | (rw [h1, hm] at hn; cases hn) | (rw [← h1, hm] at hn; cases hn)
          have hne1 : ((i : Int) == j) = false := beq_eq_false_iff_ne.2 (by omega)
          have hne2 : ((j : Int) == i) = false := beq_eq_false_iff_ne.2 (by omega)
          skip
          go_wp2
          all_goals
            go_ret
            exact ⟨rfl, hB⟩
      · rw [hn] at f2
        rw [if_pos (by rw [Option.map_some, hn])] at hE
        subst hE
        go_wp2
        all_goals
          go_ret
          exact ⟨rfl, hB⟩
end Go.Proofs.YthbiiccblcoogaaGreatDoor
