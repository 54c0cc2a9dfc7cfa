/- oxbowref20: cond. -/
import Derived.Test.YthbiiccblcoogaaGreatDoorPlnA
set_option linter.unusedVariables false
set_option linter.unusedSimpArgs false
namespace Go.Proofs.YthbiiccblcoogaaGreatDoor
open Go.RowKit

theorem and_b {a : Bool} : (a = true → False) → a = false := by cases a <;> simp

set_option maxRecDepth 100000 in
set_option maxHeartbeats 3200000 in
theorem qcond_any (g1 g2 : Option Addr) (c1 m2 c2 : Nat) (wi : Int) (l : List Pat.Step) (c : Pat.Cond) (w : World) (hl : l.length ≤ 1000) (hs : Sv w g1 l) (gc : GoodC c) (E : Int) (hE : condE l c = E) :
    Calls Tryz.prog 48 #[.agg #[.slice g1 l.length c1, .slice g2 m2 c2, .int .i64 wi], .agg #[.int .u8 c.left.toNat, .int .i64 c.op, .int .u8 c.right.toNat, .int .i64 c.add]] w fun e w' => e = .returned (.int .i64 E) ∧ Below w.heap.size w w' := by
  have HE := Lib.hid hE
  obtain ⟨o1, o2, a1, a2⟩ := gc
  obtain ⟨CL, hCL⟩ : ∃ C : Int, (c.left.toNat : Int) = C := ⟨_, rfl⟩
  obtain ⟨CR, hCR⟩ : ∃ C : Int, (c.right.toNat : Int) = C := ⟨_, rfl⟩
  rw [hCL, hCR]
  have HL := Lib.hid hCL
  have HR := Lib.hid hCR
  clear hE hCL hCR
  have B0 := ((Below.refl w.heap.size w).alloc (Nat.le_refl _) (.cells #[.slice g1 l.length c1, .slice g2 m2 c2, .int .i64 wi] 75)).alloc (by simp) (.cells #[.int .u8 CL, .int .i64 c.op, .int .u8 CR, .int .i64 c.add] 135)
  have X0 := (Lb.new w #[.slice g1 l.length c1, .slice g2 m2 c2, .int .i64 wi] 75).alloc (.cells #[.int .u8 CL, .int .i64 c.op, .int .u8 CR, .int .i64 c.add] 135)
  have Y0 := Lb.new (w.alloc (.cells #[.slice g1 l.length c1, .slice g2 m2 c2, .int .i64 wi] 75)) #[.int .u8 CL, .int .i64 c.op, .int .u8 CR, .int .i64 c.add] 135
  simp only [sz_alloc] at Y0
  have s0 := hs.below B0
  have a3 : c.add ≤ 9007199254740992 := by omega
  have a4 : -9007199254740992 ≤ c.add := by omega
  have hE := HE.out
  unfold condE at hE
  have pl := @pfind_lt l c.left
  have pr := @pfind_lt l c.right
  have hcr : (c.right = 0) ↔ CR = 0 := by
    rw [← HR.out]
    constructor
    · intro h; rw [h]; rfl
    · intro h; exact UInt8.toNat_inj.1 (by rw [show (0 : UInt8).toNat = 0 from rfl]; omega)
  have F1 := rfind_any g1 g2 c1 m2 c2 wi l c.left CL HL.out.symm
  have F2 := rfind_any g1 g2 c1 m2 c2 wi l c.right CR HR.out.symm
  have HF1 := Lib.hid F1
  have HF2 := Lib.hid F2
  clear HE HL HR F1 F2
  generalize pfind l c.left = FL at *
  generalize pfind l c.right = FR at *
  have HHE := Lib.hid hE
  have HPL := Lib.hid pl
  have HPR := Lib.hid pr
  have HCR := Lib.hid hcr
  clear hE pl pr hcr
  go_enter Tryz.func48, Tryz.ntmps48
  go_wp2_with fail
  refine (HF1.out _ hl s0).mono ?_
  rintro e w2 ⟨rfl, hb2⟩
  have X2 := X0.below hb2 X0.lt
  have Y2 := Y0.below hb2 Y0.lt
  have r0 := X2.cell 0 _ rfl
  have r1 := X2.cell 1 _ rfl
  have r2 := X2.cell 2 _ rfl
  have n0 := Y2.cell 0 _ rfl
  have n2 := Y2.cell 2 _ rfl
  have hB : Below w.heap.size w w2 := B0.trans (hb2.mono B0.size)
  have s2 := s0.below hb2
  clear X0 Y0 B0 hb2 s0
  have hE := HHE.out
  by_cases h1 : FL < 0
  · rw [if_pos h1] at hE
    subst hE
    go_wp2
    go_ret
    exact ⟨rfl, hB⟩
  rw [if_neg h1] at hE
  have h1' : 0 ≤ FL := by omega
  clear h1
  by_cases h2 : CR = 0
  · rw [if_pos (HCR.out.2 h2)] at hE
    subst hE
    subst h2
    go_wp2
    go_ret
    exact ⟨rfl, hB⟩
  rw [if_neg (fun h => h2 (HCR.out.1 h))] at hE
  have h2b : (CR == 0) = false := beq_eq_false_iff_ne.2 h2
  clear h2
  have HHE2 := Lib.hid hE
  clear hE
  go_wp2_with fail
  refine (HF2.out _ hl s2).mono ?_
  rintro e w3 ⟨rfl, hb3⟩
  have X3 := X2.below hb3 X2.lt
  have Y3 := Y2.below hb3 Y2.lt
  have k0 := X3.cell 0 _ rfl
  have hB3 : Below w.heap.size w w3 := hB.trans (hb3.mono hB.size)
  have s3 := s2.below hb3
  clear r0 r1 r2 n0 n2 X2 Y2 hB s2 hb3
  have hE := HHE2.out
  by_cases h3 : FR < 0
  · rw [if_pos h3] at hE
    subst hE
    go_wp2
    go_ret
    exact ⟨rfl, hB3⟩
  rw [if_neg h3] at hE
  have h3' : 0 ≤ FR := by omega
  clear h3
  obtain ⟨i, x, rfl, hx⟩ := HPL.out h1'
  obtain ⟨j, y, rfl, hy⟩ := HPR.out h3'
  obtain ⟨b, rfl, hbb, d0, d1, d2, d3, d4⟩ := s3 i x hx
  obtain ⟨b', hb', hbb', f0, f1, f2, f3, f4⟩ := s3 j y hy
  injection hb' with hb'
  injection hb' with hb'
  subst hb'
  have hi : i < l.length := (List.getElem?_eq_some_iff.1 hx).1
  have hj : j < l.length := (List.getElem?_eq_some_iff.1 hy).1
  have hii : (i : Int) < l.length := by omega
  have hjj : (j : Int) < l.length := by omega
  have hEE : E = if (if i ≤ j then x.neg else y.neg) = true then 23 else 0 := by
    rw [← hE]
    by_cases hij : i ≤ j
    · rw [if_pos hij, show (min (i : Int) j).toNat = i by omega, hx]; simp
    · rw [if_neg hij, show (min (i : Int) j).toNat = j by omega, hy]; simp
  have hsame : i = j → x.neg = y.neg := fun e => by subst e; rw [hx] at hy; injection hy with hy; rw [hy]
  clear hE hx hy HHE HHE2 HPL HPR HCR HF1 HF2 s3
  rcases hn : x.neg with _ | _ <;> rcases hm : y.neg with _ | _ <;> rw [hn] at hEE hsame d2 <;> rw [hm] at hEE hsame f2
  · have e0 : E = 0 := by rw [hEE]; split <;> simp
    subst e0
    clear hEE hsame
    go_wp2
    go_ret
    exact ⟨rfl, hB3⟩
  · have hne : i ≠ j := fun e => by cases hsame e
    by_cases hij : i ≤ j
    · rw [if_pos hij] at hEE
      have e0 : E = 0 := by rw [hEE]; simp
      subst e0
      have g1 : decide ((j : Int) ≤ i) = false := by simp; omega
      have g2 : decide (j ≤ i) = false := by simp; omega
      clear hEE hsame hne
      go_wp2
      go_ret
      exact ⟨rfl, hB3⟩
    · rw [if_neg hij] at hEE
      have e0 : E = 23 := by rw [hEE]; simp
      subst e0
      have g1 : decide ((j : Int) ≤ i) = true := by simp; omega
      have g2 : decide (j ≤ i) = true := by simp; omega
      clear hEE hsame hne
      go_wp2
      go_ret
      exact ⟨rfl, hB3⟩
  · have hne : i ≠ j := fun e => by cases hsame e
    by_cases hij : i ≤ j
    · rw [if_pos hij] at hEE
      have e0 : E = 23 := by rw [hEE]; simp
      subst e0
      have g1 : decide ((i : Int) ≤ j) = true := by simp; omega
      have g2 : decide (i ≤ j) = true := by simp; omega
      clear hEE hsame hne
      go_wp2
      go_ret
      exact ⟨rfl, hB3⟩
    · rw [if_neg hij] at hEE
      have e0 : E = 0 := by rw [hEE]; simp
      subst e0
      have g1 : decide ((i : Int) ≤ j) = false := by simp; omega
      have g2 : decide (i ≤ j) = false := by simp; omega
      clear hEE hsame hne
      go_wp2
      go_ret
      exact ⟨rfl, hB3⟩
  · have e0 : E = 23 := by rw [hEE]; split <;> simp
    subst e0
    clear hEE hsame
    go_wp2
    go_ret
    exact ⟨rfl, hB3⟩
end Go.Proofs.YthbiiccblcoogaaGreatDoor
