/- oxbowref20: Find, step. -/
import Derived.Test.YthbiiccblcoogaaGreatDoorRefM
set_option linter.unusedVariables false
set_option linter.unusedSimpArgs false
namespace Go.Proofs.YthbiiccblcoogaaGreatDoor
open Go.RowKit

set_option maxHeartbeats 1600000 in
theorem rfind_any (g1 g2 : Option Addr) (c1 m2 c2 : Nat) (wi : Int) (l : List Pat.Step) (n : UInt8) (C : Int) (hC : C = n.toNat) (w : World) (hl : l.length ≤ 1000) (hs : Sv w g1 l) :
    Calls Tryz.prog 49 #[.agg #[.slice g1 l.length c1, .slice g2 m2 c2, .int .i64 wi], .int .u8 C] w fun e w' => e = .returned (.int .i64 (pfind l n)) ∧ Below w.heap.size w w' := by
  have HC := Lib.hid hC
  clear hC
  have B1 := (Below.refl w.heap.size w).alloc (Nat.le_refl _) (.cells #[.slice g1 l.length c1, .slice g2 m2 c2, .int .i64 wi] 75)
  have hs1 := hs.below B1
  have X0 := Lb.new w #[.slice g1 l.length c1, .slice g2 m2 c2, .int .i64 wi] 75
  have x0 := X0.cell 0 _ rfl
  have HE := Lib.hid (rfl : pfind l n = pfind l n)
  go_enter Tryz.func49, Tryz.ntmps49
  go_wp2_with fail
  go_loop [5] (fun v5 => ∃ i : Nat, i ≤ l.length ∧ v5 = .int .i64 i ∧ ∀ j, j < i → ∀ x, l[j]? = some x → x.name ≠ n) (fun v5 => l.length - (intOf v5).toNat)
  case atStart => exact ⟨0, Nat.zero_le _, rfl, fun j hj => absurd hj (Nat.not_lt_zero _)⟩
  case round =>
    obtain ⟨i, hi, rfl, hno⟩ := hrel
    by_cases hlt : i < l.length
    · obtain ⟨x, hx⟩ : ∃ x, l[i]? = some x := ⟨l[i], List.getElem?_eq_getElem hlt⟩
      obtain ⟨b, rfl, hbb, e0, e1, e2, e3, e4⟩ := hs1 i x hx
      have hii : (i : Int) < l.length := by omega
      have HNO := Lib.hid hno
      have HX := Lib.hid hx
      have h1 := @name_eq x.name n
      have h2 := @name_ne x.name n
      rw [← HC.out] at h1 h2
      clear hno hx
      generalize (x.name.toNat : Int) = D at *
      by_cases hn : x.name = n
      · have ht : (D == C) = true := h1 hn
        clear h1 h2
        go_wp2
        go_ret
        have e := pfind_at HX.out hn HNO.out
        exact ⟨ret_eq (by rw [e]; rfl), B1⟩
      · have ht : (D == C) = false := h2 hn
        clear h1 h2
        go_wp2
        go_round
        case rel =>
          refine ⟨i + 1, by omega, by go_num, fun j hj y hy => ?_⟩
          by_cases hji : j = i
          · subst hji; rw [HX.out] at hy; injection hy with hy; subst hy; exact hn
          · exact HNO.out j (by omega) y hy
        case measure => simp [intOf]; omega
    · have hii : ¬ (i : Int) < l.length := by omega
      have HNO := Lib.hid hno
      clear hno
      go_wp2
      go_ret
      have e := pfind_none (l := l) (n := n) (fun x hx => by
        obtain ⟨j, hj, rfl⟩ := List.getElem_of_mem hx
        exact HNO.out j (by omega) _ (List.getElem?_eq_getElem hj))
      exact ⟨ret_eq (by rw [e]; rfl), B1⟩

theorem pfind_le {l : List Pat.Step} {i : Nat} {x : Pat.Step} (hx : l[i]? = some x) : 0 ≤ pfind l x.name ∧ pfind l x.name ≤ i := by
  unfold pfind
  obtain ⟨hi, he⟩ := List.getElem?_eq_some_iff.1 hx
  split
  · rename_i j hj
    rw [List.findIdx?_eq_some_iff_getElem] at hj
    obtain ⟨hj1, hj2, hj3⟩ := hj
    refine ⟨by omega, ?_⟩
    by_cases h : i < j
    · have := hj3 i h
      rw [he] at this
      simp at this
    · omega
  · rename_i hj
    rw [List.findIdx?_eq_none_iff] at hj
    have := hj x (List.mem_of_getElem? hx)
    simp at this

set_option maxRecDepth 100000 in
set_option maxHeartbeats 3200000 in
theorem qstep_any (g1 g2 : Option Addr) (c1 m2 c2 i : Nat) (wi : Int) (l : List Pat.Step) (x : Pat.Step) (w : World) (hl : l.length ≤ 1000) (hs : Sv w g1 l) (hx : l[i]? = some x) (gx : GoodS x) (E : Int) (hE : stepE l i x = E) :
    Calls Tryz.prog 47 #[.agg #[.slice g1 l.length c1, .slice g2 m2 c2, .int .i64 wi], .int .i64 i] w fun e w' => e = .returned (.int .i64 E) ∧ Below w.heap.size w w' := by
  have hi : i < l.length := (List.getElem?_eq_some_iff.1 hx).1
  have hii : (i : Int) < l.length := by omega
  have pl := pfind_le hx
  obtain ⟨b, rfl, hbb, e0, e1, e2, e3, e4⟩ := hs i x hx
  obtain ⟨k1, k2, n1, n2, l1, l2, l3, ng⟩ := gx
  have B0 := (Below.refl w.heap.size w).alloc (Nat.le_refl _) (.cells #[.slice (some ⟨b, 0, none⟩) l.length c1, .slice g2 m2 c2, .int .i64 wi] 75)
  have s0 := hs.below B0
  obtain ⟨b', hb', hbb', d0, d1, d2, d3, d4⟩ := s0 i x hx
  injection hb' with hb'
  injection hb' with hb'
  subst hb'
  have HE := Lib.hid hE
  have NG := Lib.hid ng
  obtain ⟨C, hC⟩ : ∃ C : Int, (x.name.toNat : Int) = C := ⟨_, rfl⟩
  have HC := Lib.hid hC
  rw [hC] at n1 n2 e1 d1
  clear hE hx ng hC e0 e1 e2 e3 e4
  generalize (x.kind.toNat : Int) = KK at *
  go_enter Tryz.func47, Tryz.ntmps47
  go_wp2_with fail
  have B1 := B0.alloc (by simp) (.cells #[.int .u8 KK, .int .u8 C, .bool x.neg, .int .i64 x.lo, .int .i64 x.hi] 130)
  have X0 := (Lb.new w #[.slice (some ⟨b, 0, none⟩) l.length c1, .slice g2 m2 c2, .int .i64 wi] 75).alloc (.cells #[.int .u8 KK, .int .u8 C, .bool x.neg, .int .i64 x.lo, .int .i64 x.hi] 130)
  have Y0 := Lb.new (w.alloc (.cells #[.slice (some ⟨b, 0, none⟩) l.length c1, .slice g2 m2 c2, .int .i64 wi] 75)) #[.int .u8 KK, .int .u8 C, .bool x.neg, .int .i64 x.lo, .int .i64 x.hi] 130
  simp only [sz_alloc] at Y0
  refine (rfind_any (some ⟨b, 0, none⟩) g2 c1 m2 c2 wi l x.name C HC.out.symm _ hl (hs.below B1)).mono ?_
  rintro e w2 ⟨rfl, hb2⟩
  have hB := B1.trans (hb2.mono B1.size)
  have X2 := X0.below hb2 X0.lt
  have Y2 := Y0.below hb2 Y0.lt
  have p0 := X2.cell 0 _ rfl
  have y0 := Y2.cell 0 _ rfl
  have y1 := Y2.cell 1 _ rfl
  have y2 := Y2.cell 2 _ rfl
  have y3 := Y2.cell 3 _ rfl
  have y4 := Y2.cell 4 _ rfl
  have hE := HE.out
  unfold stepE at hE
  clear HE X0 Y0 X2 Y2 hb2 s0 hs d0 d1 d2 d3 d4 B0 B1
  generalize pfind l x.name = F at *
  by_cases hF : F < i
  · rw [if_pos hF] at hE
    subst hE
    have hne : (F != (i : Int)) = true := by rw [bne_iff_ne]; omega
    go_wp2
    go_ret
    exact ⟨rfl, hB⟩
  rw [if_neg hF] at hE
  have hF' : (F != (i : Int)) = false := by
    have : F = i := by omega
    rw [this]; simp
  clear hF
  have ng := NG.out
  clear NG
  rcases hn : x.neg with _ | _
  · rw [hn] at y2 hE
    rw [if_neg (by simp)] at hE
    subst hE
    clear ng
    go_wp2
    go_ret
    exact ⟨rfl, hB⟩
  · rw [hn] at y2 hE
    obtain ⟨q1, q2⟩ := ng hn
    rw [q1] at y3
    rw [q2] at y4
    by_cases h0 : (i : Int) = 0
    · rw [if_pos ⟨rfl, .inl h0⟩] at hE
      subst hE
      have hz : ((i : Int) == 0) = true := beq_iff_eq.2 h0
      clear ng
      go_wp2
      go_ret
      exact ⟨rfl, hB⟩
    · have hz : ((i : Int) == 0) = false := beq_eq_false_iff_ne.2 h0
      by_cases h1 : (i : Int) = (l.length : Int) - 1
      · rw [if_pos ⟨rfl, .inr h1⟩] at hE
        subst hE
        have hz1 : ((i : Int) + 1 == (l.length : Int)) = true := beq_iff_eq.2 (by omega)
        have H1 := Lib.hid h1
        clear ng h1
        go_wp2
        go_ret
        exact ⟨rfl, hB⟩
      · rw [if_neg (by rintro ⟨_, h | h⟩; exact h0 h; exact h1 h)] at hE
        subst hE
        have hz1 : ((i : Int) + 1 == (l.length : Int)) = false := beq_eq_false_iff_ne.2 (by omega)
        clear ng
        go_wp2
        go_ret
        exact ⟨rfl, hB⟩
end Go.Proofs.YthbiiccblcoogaaGreatDoor
