/- oxbowref20: positive; what stands in memory while Make runs. -/
import Derived.Test.YthbiiccblcoogaaGreatDoorPlnC
set_option linter.unusedVariables false
set_option linter.unusedSimpArgs false
namespace Go.Proofs.YthbiiccblcoogaaGreatDoor
open Go.RowKit

/-- Some number; nothing old has turned. -/
def SomeN (w : World) (e : Ending) (w' : World) : Prop := (∃ n : Int, e = .returned (.int .i64 n)) ∧ Below w.heap.size w w'

set_option maxHeartbeats 1600000 in
theorem posi_any (g1 g2 : Option Addr) (c1 m2 c2 : Nat) (wi : Int) (l : List Pat.Step) (w : World) (hl : l.length ≤ 1000) (hs : Sv w g1 l) (r : Int) (hr : r ≤ l.length) (hr0 : -1 ≤ r) :
    Calls Tryz.prog 50 #[.agg #[.slice g1 l.length c1, .slice g2 m2 c2, .int .i64 wi], .int .i64 r] w (SomeN w) := by
  have B1 := (Below.refl w.heap.size w).alloc (Nat.le_refl _) (.cells #[.slice g1 l.length c1, .slice g2 m2 c2, .int .i64 wi] 75)
  have hs1 := hs.below B1
  have X0 := Lb.new w #[.slice g1 l.length c1, .slice g2 m2 c2, .int .i64 wi] 75
  have x0 := X0.cell 0 _ rfl
  go_enter Tryz.func50, Tryz.ntmps50
  go_wp2_with fail
  go_loop [5, 6] (fun v5 v6 => ∃ k n : Nat, k ≤ 1000 ∧ n ≤ k ∧ v6 = .int .i64 k ∧ v5 = .int .i64 n) (fun _ v6 => 2000 - (intOf v6).toNat)
  case atStart => exact ⟨0, 0, by omega, Nat.le_refl _, rfl, rfl⟩
  case round =>
    obtain ⟨k, n, hk, hn, rfl, rfl⟩ := hrel
    by_cases hlt : (k : Int) < r
    · have hkl : k < l.length := by omega
      obtain ⟨x, hx⟩ : ∃ x, l[k]? = some x := ⟨l[k], List.getElem?_eq_getElem hkl⟩
      obtain ⟨b, rfl, hbb, e0, e1, e2, e3, e4⟩ := hs1 k x hx
      have hii : (k : Int) < l.length := by omega
      have HX := Lib.hid hx
      clear hx
      rcases hng : x.neg with _ | _ <;> rw [hng] at e2
      · go_wp2
        go_round
        case rel => exact ⟨k + 1, n + 1, by omega, by omega, by go_num, by go_num⟩
        case measure => simp [intOf]; omega
      · go_wp2
        go_round
        case rel => exact ⟨k + 1, n, by omega, by omega, by go_num, rfl⟩
        case measure => simp [intOf]; omega
    · go_wp2
      go_ret
      exact ⟨⟨_, rfl⟩, B1⟩

theorem info143 : (Tryz.prog.info? 143).map (fun i => (i.zero, i.size, i.bytes)) = some (some (.agg #[.int .u8 0, .bool false, .int .i64 0, .int .i64 0, .slice none 0 0]), 5, 48) := by kernel_rfl
theorem info146 : (Tryz.prog.info? 146).map (fun i => (i.zero, i.size, i.bytes)) = some (some (.agg #[.int .i64 0, .int .i64 0, .int .i64 0, .bool false]), 4, 32) := by kernel_rfl
theorem und141 : Tryz.prog.underlying 141 = some (.slice 146) := by kernel_rfl
theorem und44 : Tryz.prog.underlying 44 = some (.slice 143) := by kernel_rfl

theorem own_below {W W' : World} {base e size n X : Nat} {v : Value} {xs : List Value} (h : W.ownsRow base e size v n xs) (hb : Below X W W') (hX : W.heap.size ≤ X) : W'.ownsRow base e size v n xs :=
  h.kept (row := none) ⟨hb.os, hb.tape, hb.output, hb.size, fun k hk _ => hb.block k (by omega)⟩
    (by rcases v.ownBlock with _ | k; exact .inl rfl; right; simp)

/-- While the definitions' Make runs: the pattern, the result's variable, the plan. -/
structure Mo (P : Nat) (gs gc : Value) (wi : Int) (w wr : World) (i : Nat) : Prop where
  bl : Below P w wr
  hP : Lb wr P #[gs, gc, .int .i64 wi] 75
  hR : Lb wr (P + 1) #[.slice none 0 0, .int .i64 0] 46
  hO : ∃ v n xs, n ≤ i ∧ Lb wr (P + 2) #[v, .int .i64 wi] 46 ∧ wr.ownsRow (P + 3) 143 5 v n xs
theorem Mo.below {P i X : Nat} {gs gc : Value} {wi : Int} {w wr W : World} (h : Mo P gs gc wi w wr i) (hb : Below X wr W) (hX : wr.heap.size ≤ X) : Mo P gs gc wi w W i := by
  obtain ⟨v, n, xs, h1, h2, h3⟩ := h.hO
  have l1 := h.hP.lt
  have l2 := h.hR.lt
  have l3 := h2.lt
  exact ⟨h.bl.trans (hb.mono (by omega)), h.hP.below hb (by omega), h.hR.below hb (by omega), v, n, xs, h1, h2.below hb (by omega), own_below h3 hb hX⟩

theorem Mo.append {P i n gg cap : Nat} {gs gc v : Value} {wi : Int} {w W w4 : World} {xs ys : List Value} (h : Mo P gs gc wi w W i) (hO : Lb W (P + 2) #[v, .int .i64 wi] 46) (hown : W.ownsRow (P + 3) 143 5 v n xs) (hn : n ≤ i)
    (hgrow : W.grownBy w4 v.ownBlock) (hown4 : w4.ownsRow (P + 3) 143 5 (.slice (some ⟨gg, 0, none⟩) (n + 1) cap) (n + 1) ys) :
    Mo P gs gc wi w (w4.setCell ⟨P + 2, 0, none⟩ (.slice (some ⟨gg, 0, none⟩) (n + 1) cap)) (i + 1) := by
  have l1 := h.hP.lt
  have l2 := hO.lt
  have ne : ∀ q, q < P + 3 → some q ≠ v.ownBlock := fun q hq e => by have := hown.lt _ e.symm; omega
  refine ⟨(h.bl.grown hgrow (by omega) (fun k e => by have := hown.lt k e; omega)).setCell (p := ⟨P + 2, 0, none⟩) (by dsimp only; omega) _, (h.hP.grown hgrow (ne _ (by omega))).other _ _ (by dsimp only; omega), (h.hR.grown hgrow (ne _ (by omega))).other _ _ (by dsimp only; omega),
    _, n + 1, ys, by omega, (hO.grown hgrow (ne _ (by omega))).set 0 _, ?_⟩
  exact ownsRow_setCell_other hown4 (fun e => by have := hown4.lt _ e; dsimp only at this; omega) _

/-- While a step's tests are made: the step's position. -/
structure Mi (X : Nat) (wo wr : World) (a b c d : Value) (k : Nat) : Prop where
  bl : Below X wo wr
  hX : ∃ v n xs, n ≤ k ∧ Lb wr X #[a, b, c, d, v] 143 ∧ wr.ownsRow (X + 1) 146 4 v n xs
theorem Mi.le {X k k' : Nat} {wo wr : World} {a b c d : Value} (h : Mi X wo wr a b c d k) (hk : k ≤ k') : Mi X wo wr a b c d k' := by
  obtain ⟨v, n, xs, h1, h2, h3⟩ := h.hX
  exact ⟨h.bl, v, n, xs, Nat.le_trans h1 hk, h2, h3⟩
theorem Mi.below {X k : Nat} {wo wr W : World} {a b c d : Value} (h : Mi X wo wr a b c d k) (hb : Below wr.heap.size wr W) : Mi X wo W a b c d k := by
  obtain ⟨v, n, xs, h1, h2, h3⟩ := h.hX
  have l1 := h2.lt
  exact ⟨h.bl.trans (hb.mono (by omega)), v, n, xs, h1, h2.below hb h2.lt, own_below h3 hb (Nat.le_refl _)⟩
/-- A test more. -/
theorem Mi.append {X k n gg cap : Nat} {wo W w4 : World} {a b c d v : Value} {xs ys : List Value} (hbl : Below X wo W) (hX : Lb W X #[a, b, c, d, v] 143) (hown : W.ownsRow (X + 1) 146 4 v n xs) (hk : n + 1 ≤ k)
    (hgrow : W.grownBy w4 v.ownBlock) (hown4 : w4.ownsRow (X + 1) 146 4 (.slice (some ⟨gg, 0, none⟩) (n + 1) cap) (n + 1) ys) :
    Mi X wo (w4.setCell ⟨X, 4, none⟩ (.slice (some ⟨gg, 0, none⟩) (n + 1) cap)) a b c d k := by
  have hlt := hX.lt
  have hne : some X ≠ v.ownBlock := fun e => by have := hown.lt _ e.symm; omega
  refine ⟨((hbl.grown hgrow (by omega) (fun k e => by have := hown.lt k e; omega)).setCell (p := ⟨X, 4, none⟩) (Nat.le_refl _) _), _, n + 1, ys, hk, (hX.grown hgrow hne).set 4 _, ?_⟩
  exact ownsRow_setCell_other hown4 (fun e => by have := hown4.lt _ e; dsimp only at this; omega) _

/-- The same with the tests' slice named: its block is older than N. -/
structure Mv (X N : Nat) (wo W : World) (a b c d v : Value) (n : Nat) (xs : List Value) : Prop where
  bl : Below X wo W
  x : Lb W X #[a, b, c, d, v] 143
  own : W.ownsRow (X + 1) 146 4 v n xs
  old : ∀ k, v.ownBlock = some k → k < N
  hX : X < N
  hN : N ≤ W.heap.size
theorem Mi.open {X k : Nat} {wo wr : World} {a b c d : Value} (h : Mi X wo wr a b c d k) : ∃ v n xs, n ≤ k ∧ Mv X wr.heap.size wo wr a b c d v n xs := by
  obtain ⟨v, n, xs, h1, h2, h3⟩ := h.hX
  exact ⟨v, n, xs, h1, h.bl, h2, h3, fun k e => (h3.lt k e).2, h2.lt, Nat.le_refl _⟩
theorem Mv.below {X N n : Nat} {wo W W' : World} {a b c d v : Value} {xs : List Value} (h : Mv X N wo W a b c d v n xs) (hb : Below W.heap.size W W') : Mv X N wo W' a b c d v n xs :=
  ⟨h.bl.trans (hb.mono (Nat.le_of_lt h.x.lt)), h.x.below hb h.x.lt, own_below h.own hb (Nat.le_refl _), h.old, h.hX, Nat.le_trans h.hN hb.size⟩
theorem Mv.setT {X N n T : Nat} {wo W : World} {a b c d v : Value} {xs : List Value} (h : Mv X N wo W a b c d v n xs) (hT : N ≤ T) (i : Nat) (u : Value) : Mv X N wo (W.setCell ⟨T, i, none⟩ u) a b c d v n xs := by
  have hX := h.hX
  exact ⟨h.bl.setCell (p := ⟨T, i, none⟩) (by dsimp only; omega) _, h.x.other _ _ (by dsimp only; omega), ownsRow_setCell_other h.own (fun e => by have := h.old _ e; dsimp only at this; omega) _, h.old, h.hX, by simpa using h.hN⟩
theorem Mv.append {X N k n gg cap : Nat} {wo W w4 : World} {a b c d v : Value} {xs ys : List Value} (h : Mv X N wo W a b c d v n xs) (hk : n + 1 ≤ k)
    (hgrow : W.grownBy w4 v.ownBlock) (hown4 : w4.ownsRow (X + 1) 146 4 (.slice (some ⟨gg, 0, none⟩) (n + 1) cap) (n + 1) ys) :
    Mi X wo (w4.setCell ⟨X, 4, none⟩ (.slice (some ⟨gg, 0, none⟩) (n + 1) cap)) a b c d k := Mi.append h.bl h.x h.own hk hgrow hown4
theorem Mv.mi {X N k n : Nat} {wo W : World} {a b c d v : Value} {xs : List Value} (h : Mv X N wo W a b c d v n xs) (hk : n ≤ k) : Mi X wo W a b c d k := ⟨h.bl, v, n, xs, hk, h.x, h.own⟩
theorem pfind_bd (l : List Pat.Step) (n : UInt8) : -1 ≤ pfind l n ∧ pfind l n < l.length := by
  unfold pfind
  split
  · rename_i i hi
    rw [List.findIdx?_eq_some_iff_getElem] at hi
    obtain ⟨h1, _⟩ := hi
    omega
  · omega
end Go.Proofs.YthbiiccblcoogaaGreatDoor
