/- plan: a name's first step. -/
import Derived.Test.YthbiiccblcoogaaGreatDoorPatO
set_option linter.unusedVariables false
set_option linter.unusedSimpArgs false
namespace Go.Proofs.YthbiiccblcoogaaGreatDoor
open Go.RowKit

/-- The steps of a pattern, where they can be read. -/
def Sv (w : World) (g : Option Addr) (l : List Pat.Step) : Prop :=
  ∀ i x, l[i]? = some x → ∃ b, g = some ⟨b, 0, none⟩ ∧ b < w.heap.size ∧ w.cell? ⟨b, i * 5, none⟩ = some (.int .u8 x.kind.toNat) ∧ w.cell? ⟨b, i * 5 + 1, none⟩ = some (.int .u8 x.name.toNat) ∧
    w.cell? ⟨b, i * 5 + 2, none⟩ = some (.bool x.neg) ∧ w.cell? ⟨b, i * 5 + 3, none⟩ = some (.int .i64 x.lo) ∧ w.cell? ⟨b, i * 5 + 4, none⟩ = some (.int .i64 x.hi)
theorem Sv.below {w w' : World} {g : Option Addr} {l : List Pat.Step} (h : Sv w g l) (hb : Below w.heap.size w w') : Sv w' g l := by
  intro i x hx
  obtain ⟨b, h1, h2, h3, h4, h5, h6, h7⟩ := h i x hx
  exact ⟨b, h1, Nat.lt_of_lt_of_le h2 hb.size, by rw [hb.cell h2]; exact h3, by rw [hb.cell h2]; exact h4, by rw [hb.cell h2]; exact h5, by rw [hb.cell h2]; exact h6, by rw [hb.cell h2]; exact h7⟩

/-- The number of a name's first step. -/
def pfind (l : List Pat.Step) (n : UInt8) : Int := match l.findIdx? (fun s => s.name == n) with | some i => i | none => -1

set_option maxHeartbeats 400000 in
theorem find1_any (a b c d e : Int) (t : Bool) (nb : Nat) (w : World) (hc : w.cell? ⟨nb, 0, none⟩ = some (.int .u8 c)) (T : Bool) (hT : (b == c) = T) :
    Calls Tryz.prog 259 #[.agg #[.int .u8 a, .int .u8 b, .bool t, .int .i64 d, .int .i64 e], .pointer (some ⟨nb, 0, none⟩)] w fun e w' => e = .returned (.bool T) ∧ Below w.heap.size w w' := by
  subst hT
  have hlt := World.block_lt_of_cell? w _ hc
  have h2 : (w.alloc (.cells #[.int .u8 a, .int .u8 b, .bool t, .int .i64 d, .int .i64 e] 342)).cell? ⟨nb, 0, none⟩ = some (.int .u8 c) := ((Below.refl w.heap.size w).alloc (Nat.le_refl _) _).cell hlt |>.trans hc
  go_enter Tryz.func259, Tryz.ntmps259
  go_wp2
  go_ret
  exact ⟨rfl, (Below.refl _ w).alloc (Nat.le_refl _) _⟩

theorem name_eq {a b : UInt8} (h : a = b) : ((a.toNat : Int) == b.toNat) = true := by subst h; exact beq_self_eq_true _
theorem name_ne {a b : UInt8} (h : a ≠ b) : ((a.toNat : Int) == b.toNat) = false := by
  rw [beq_eq_false_iff_ne]; intro e; exact h (UInt8.toNat_inj.1 (by omega))
theorem pfind_at {l : List Pat.Step} {n : UInt8} {i : Nat} {x : Pat.Step} (hx : l[i]? = some x) (hn : x.name = n) (hno : ∀ j, j < i → ∀ y, l[j]? = some y → y.name ≠ n) : pfind l n = i := by
  have : l.findIdx? (fun s => s.name == n) = some i := by
    rw [List.findIdx?_eq_some_iff_getElem]
    obtain ⟨hi, he⟩ := List.getElem?_eq_some_iff.1 hx
    refine ⟨hi, by rw [he, hn]; simp, fun j hj => ?_⟩
    have := hno j hj _ (List.getElem?_eq_getElem (by omega))
    simpa using this
  unfold pfind; rw [this]
theorem pfind_none {l : List Pat.Step} {n : UInt8} (h : ∀ x ∈ l, x.name ≠ n) : pfind l n = -1 := by
  have : l.findIdx? (fun s => s.name == n) = none := by
    rw [List.findIdx?_eq_none_iff]
    intro x hx; simpa using h x hx
  unfold pfind; rw [this]

set_option maxHeartbeats 1600000 in
theorem index_any (g : Option Addr) (cap : Nat) (l : List Pat.Step) (n : UInt8) (nb : Nat) (w : World) (hl : l.length ≤ 1000) (hs : Sv w g l) (hc : w.cell? ⟨nb, 0, none⟩ = some (.int .u8 n.toNat)) :
    Calls Tryz.prog 258 #[.slice g l.length cap, .func (Fn.func 259) #[] #[.pointer (some ⟨nb, 0, none⟩)]] w fun e w' => e = .returned (.int .i64 (pfind l n)) ∧ Below w.heap.size w w' := by
  go_enter Tryz.func258, Tryz.ntmps258
  go_wp2_with fail
  go_loopw [8] (fun v8 wr => ∃ i : Nat, i ≤ l.length ∧ v8 = .int .i64 i ∧ Below w.heap.size w wr ∧ ∀ j, j < i → ∀ x, l[j]? = some x → x.name ≠ n) (fun v8 _ => l.length - (intOf v8).toNat)
  case atStart => exact ⟨0, Nat.zero_le _, rfl, Below.refl _ _, fun j hj => absurd hj (Nat.not_lt_zero _)⟩
  case round =>
    obtain ⟨i, hi, rfl, hb, hno⟩ := hrel
    by_cases hlt : i < l.length
    · obtain ⟨x, hx⟩ : ∃ x, l[i]? = some x := ⟨l[i], List.getElem?_eq_getElem hlt⟩
      obtain ⟨b, rfl, hbb, e0, e1, e2, e3, e4⟩ := (hs.below hb) i x hx
      have hcc := hb.cell (World.block_lt_of_cell? w _ hc) |>.trans hc
      have hii : (i : Int) < l.length := by omega
      have HNO := Lib.hid hno
      have HX := Lib.hid hx
      clear hno hx hc
      have h1 := @name_eq x.name n
      have h2 := @name_ne x.name n
      generalize (x.name.toNat : Int) = D at *
      generalize (n.toNat : Int) = C at *
      by_cases hn : x.name = n
      · have ht : (D == C) = true := h1 hn
        have HT := Lib.hid ht
        clear ht h1 h2
        go_wp2_with (go_at_call 259; refine (find1_any _ _ _ _ _ _ _ _ (by exact hcc) true HT.out).mono ?_; rintro e w2 ⟨rfl, hb2⟩)
        go_ret
        have e := pfind_at HX.out hn HNO.out
        exact ⟨ret_eq (by rw [e]; rfl), hb.trans (hb2.mono hb.size)⟩
      · have ht : (D == C) = false := h2 hn
        have HT := Lib.hid ht
        clear ht h1 h2
        go_wp2_with (go_at_call 259; refine (find1_any _ _ _ _ _ _ _ _ (by exact hcc) false HT.out).mono ?_; rintro e w2 ⟨rfl, hb2⟩)
        go_roundw
        case rel =>
          refine ⟨i + 1, by omega, by go_num, hb.trans (hb2.mono hb.size), fun j hj y hy => ?_⟩
          by_cases hji : j = i
          · subst hji; rw [HX.out] at hy; injection hy with hy; subst hy; exact hn
          · exact HNO.out j (by omega) y hy
        case measure => simp [intOf]; omega
    · have hii : ¬ (i : Int) < l.length := by omega
      have HNO := Lib.hid hno
      clear hno
      go_wp2
      go_ret
      have e := pfind_none (l := l) (n := n) (fun x hx => by
        obtain ⟨j, hj, rfl⟩ := List.getElem_of_mem hx
        exact HNO.out j (by omega) _ (List.getElem?_eq_getElem hj))
      exact ⟨ret_eq (by rw [e]; rfl), hb⟩
end Go.Proofs.YthbiiccblcoogaaGreatDoor

/- plan.find, plan.letter. -/
namespace Go.Proofs.YthbiiccblcoogaaGreatDoor
open Go.RowKit

set_option maxHeartbeats 1600000 in
theorem find_any (g1 g2 : Option Addr) (c1 m2 c2 : Nat) (wi : Int) (l : List Pat.Step) (n : UInt8) (C : Int) (hC : C = n.toNat) (w : World) (hl : l.length ≤ 1000) (hs : Sv w g1 l) :
    Calls Tryz.prog 172 #[.agg #[.slice g1 l.length c1, .slice g2 m2 c2, .int .i64 wi], .int .u8 C] w fun e w' => e = .returned (.int .i64 (pfind l n)) ∧ Below w.heap.size w w' := by
  have HC := Lib.hid hC
  clear hC
  go_enter Tryz.func172, Tryz.ntmps172
  go_wp2_with fail
  have b1 : Below w.heap.size w ((w.alloc (.cells #[.slice g1 l.length c1, .slice g2 m2 c2, .int .i64 wi] 242)).alloc (.cells #[.int .u8 C] 5)) := ((Below.refl _ w).alloc (Nat.le_refl _) _).alloc (by simp) _
  have hc : ((w.alloc (.cells #[.slice g1 l.length c1, .slice g2 m2 c2, .int .i64 wi] 242)).alloc (.cells #[.int .u8 C] 5)).cell? ⟨w.heap.size + 1, 0, none⟩ = some (.int .u8 n.toNat) := by
    rw [← HC.out]
    have := (Lb.new (w.alloc (.cells #[.slice g1 l.length c1, .slice g2 m2 c2, .int .i64 wi] 242)) #[.int .u8 C] 5).cell 0 _ rfl
    simp only [sz_alloc] at this
    exact this
  refine (index_any g1 c1 l n (w.heap.size + 1) _ hl (hs.below b1) hc).mono ?_
  rintro e w2 ⟨rfl, hb2⟩
  go_wp2
  go_ret
  exact ⟨rfl, b1.trans (hb2.mono b1.size)⟩

set_option maxHeartbeats 400000 in
theorem letter_yes (a b c : Int) (w : World) (h1 : b ≤ a) (h2 : a ≤ c) : Calls Tryz.prog 336 #[.int .u8 a, .int .u8 b, .int .u8 c] w fun e w' => e = .returned (.bool true) ∧ w' = w := by
  go_enter Tryz.func336, Tryz.ntmps336
  go_wp2
  go_ret
  exact ⟨by simp [h1, h2], rfl⟩

theorem Lb.below {W W' : World} {B T N : Nat} {z : Array Value} (h : Lb W B z T) (hb : Below N W W') (hN : B < N) : Lb W' B z T := by
  unfold Lb at *
  rw [hb.block B hN]; exact h

/-! What a pattern is that was read. -/
structure GoodS (x : Pat.Step) : Prop where
  k1 : (65 : Int) ≤ x.kind.toNat
  k2 : (x.kind.toNat : Int) ≤ 90
  n1 : (97 : Int) ≤ x.name.toNat
  n2 : (x.name.toNat : Int) ≤ 122
  l1 : 1 ≤ x.lo
  l2 : x.lo ≤ x.hi
  l3 : x.hi ≤ 4
  ng : x.neg = true → x.lo = 1 ∧ x.hi = 1
structure GoodC (x : Pat.Cond) : Prop where
  o1 : 0 ≤ x.op
  o2 : x.op ≤ 5
  a1 : -1000000000 < x.add
  a2 : x.add < 1000000000

/-- What is wrong with a step of a pattern that was read. -/
def stepE (l : List Pat.Step) (i : Nat) (x : Pat.Step) : Int :=
  if pfind l x.name < i then 21 else if x.neg = true ∧ ((i : Int) = 0 ∨ (i : Int) = (l.length : Int) - 1) then 23 else 0

set_option maxHeartbeats 1600000 in
theorem pstep_any (g1 g2 : Option Addr) (c1 m2 c2 i : Nat) (wi : Int) (l : List Pat.Step) (x : Pat.Step) (w : World) (hl : l.length ≤ 1000) (hs : Sv w g1 l) (hx : l[i]? = some x) (gx : GoodS x) :
    Calls Tryz.prog 256 #[.agg #[.slice g1 l.length c1, .slice g2 m2 c2, .int .i64 wi], .int .i64 i] w fun e w' => e = .returned (.int .i64 (stepE l i x)) ∧ Below w.heap.size w w' := by
  have hi : i < l.length := (List.getElem?_eq_some_iff.1 hx).1
  have hii : (i : Int) < l.length := by omega
  obtain ⟨b, rfl, hbb, e0, e1, e2, e3, e4⟩ := hs i x hx
  obtain ⟨k1, k2, n1, n2, l1, l2, l3, ng⟩ := gx
  have B0 := (Below.refl w.heap.size w).alloc (Nat.le_refl _) (.cells #[.slice (some ⟨b, 0, none⟩) l.length c1, .slice g2 m2 c2, .int .i64 wi] 242)
  have s0 := hs.below B0
  obtain ⟨b', hb', hbb', d0, d1, d2, d3, d4⟩ := s0 i x hx
  injection hb' with hb'
  injection hb' with hb'
  subst hb'
  obtain ⟨E, hE⟩ : ∃ E, stepE l i x = E := ⟨_, rfl⟩
  rw [hE]
  have HE := Lib.hid hE
  have HX := Lib.hid hx
  have NG := Lib.hid ng
  obtain ⟨C, hC⟩ : ∃ C : Int, (x.name.toNat : Int) = C := ⟨_, rfl⟩
  have HC := Lib.hid hC
  rw [hC] at n1 n2 e1 d1
  clear hE hx ng hC e0 e1 e2 e3 e4
  go_enter Tryz.func256, Tryz.ntmps256
  go_wp2_with (go_at_call 336; refine (letter_yes _ _ _ _ (by assumption) (by assumption)).mono ?_; rintro e w2 ⟨rfl, rfl⟩)
  have B1 := B0.alloc (by simp) (.cells #[.int .u8 x.kind.toNat, .int .u8 C, .bool x.neg, .int .i64 x.lo, .int .i64 x.hi] 342)
  have X0 := (Lb.new w #[.slice (some ⟨b, 0, none⟩) l.length c1, .slice g2 m2 c2, .int .i64 wi] 242).alloc (.cells #[.int .u8 x.kind.toNat, .int .u8 C, .bool x.neg, .int .i64 x.lo, .int .i64 x.hi] 342)
  have Y0 := Lb.new (w.alloc (.cells #[.slice (some ⟨b, 0, none⟩) l.length c1, .slice g2 m2 c2, .int .i64 wi] 242)) #[.int .u8 x.kind.toNat, .int .u8 C, .bool x.neg, .int .i64 x.lo, .int .i64 x.hi] 342
  simp only [sz_alloc] at Y0
  refine (find_any (some ⟨b, 0, none⟩) g2 c1 m2 c2 wi l x.name C HC.out.symm _ hl (hs.below B1)).mono ?_
  rintro e w2 ⟨rfl, hb2⟩
  have hB := B1.trans (hb2.mono B1.size)
  have X2 := X0.below hb2 X0.lt
  have Y2 := Y0.below hb2 Y0.lt
  have p0 := X2.cell 0 _ rfl
  have y0 := Y2.cell 0 _ rfl
  have y1 := Y2.cell 1 _ rfl
  have y2 := Y2.cell 2 _ rfl
  have y3 := Y2.cell 3 _ rfl
  have y4 := Y2.cell 4 _ rfl
  have hE := HE.out
  unfold stepE at hE
  clear HE X0 Y0 X2 Y2 hb2 s0 hs d0 d1 d2 d3 d4 B0 B1
  generalize pfind l x.name = F at *
  by_cases hF : F < i
  · rw [if_pos hF] at hE
    subst hE
    go_wp2
    go_ret
    exact ⟨rfl, hB⟩
  rw [if_neg hF] at hE
  have hF' : (i : Int) ≤ F := by omega
  clear hF
  have ng := NG.out
  clear NG
  rcases hn : x.neg with _ | _
  · rw [hn] at y2 hE
    rw [if_neg (by simp)] at hE
    subst hE
    clear ng
    go_wp2
    go_ret
    exact ⟨rfl, hB⟩
  · rw [hn] at y2 hE
    obtain ⟨q1, q2⟩ := ng hn
    rw [q1] at y3
    rw [q2] at y4
    by_cases h0 : (i : Int) = 0
    · rw [if_pos ⟨rfl, .inl h0⟩] at hE
      subst hE
      have hz : ((i : Int) == 0) = true := beq_iff_eq.2 h0
      clear ng
      go_wp2
      go_ret
      exact ⟨rfl, hB⟩
    · have hz : ((i : Int) == 0) = false := beq_eq_false_iff_ne.2 h0
      by_cases h1 : (i : Int) = (l.length : Int) - 1
      · rw [if_pos ⟨rfl, .inr h1⟩] at hE
        subst hE
        have hz1 : ((i : Int) == (l.length : Int) - 1) = true := beq_iff_eq.2 h1
        have H1 := Lib.hid h1
        clear ng h1
        go_wp2
        go_ret
        exact ⟨rfl, hB⟩
      · rw [if_neg (by rintro ⟨_, h | h⟩; exact h0 h; exact h1 h)] at hE
        subst hE
        have hz1 : ((i : Int) == (l.length : Int) - 1) = false := beq_eq_false_iff_ne.2 h1
        clear ng
        go_wp2
        go_ret
        exact ⟨rfl, hB⟩
end Go.Proofs.YthbiiccblcoogaaGreatDoor
