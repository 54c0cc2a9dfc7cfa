/- feed.Show, at the items that the law fixes; the law's 'wakes'. -/
import Derived.Test.YthbiiccblcoogaaGreatDoorFeedD
set_option linter.unusedVariables false
set_option linter.unusedSimpArgs false
namespace Go.Proofs.YthbiiccblcoogaaGreatDoor
open Go.RowKit

theorem bat_below {W W' : World} {T e B b : Nat} {p : Value} {bs : List Value} (h : Lib.BuilderAt T e B b p bs W) (hb : Below W.heap.size W W') : Lib.BuilderAt T e B b p bs W' := by
  obtain ⟨h1, v, h2, h3, h4⟩ := h
  have hlt : b < W.heap.size := (Array.getElem?_eq_some_iff.1 h2).1
  exact ⟨h1, v, by rw [hb.block b hlt]; exact h2, own_below h3 hb (Nat.le_refl _), h4⟩
theorem isb_below {W W' : World} {T e B b : Nat} {bs : List Value} (h : Lib.IsBuilder T e B b bs W) (hb : Below W.heap.size W W') : Lib.IsBuilder T e B b bs W' := by
  rcases h with h | h
  · exact .inl (bat_below h hb)
  · exact .inr (bat_below h hb)

/-- What is written behind k items. -/
def wrt : Nat → List UInt8
  | 0 => []
  | 1 => [69, 32, 53, 32, 65, 32, 45, 50, 10]
  | _ => [69, 32, 53, 32, 65, 32, 45, 50, 10, 77, 32, 54, 10]

/-- Where Show stands. -/
structure Sw (w : World) (k : Nat) (wr : World) : Prop where
  bl : Below w.heap.size w wr
  lt : w.heap.size < wr.heap.size
  ib : Lib.IsBuilder 118 5 w.heap.size w.heap.size (Lib.byteCells (wrt k)) wr

set_option maxRecDepth 100000 in
set_option maxHeartbeats 3200000 in
theorem fshow (g c : Nat) (w : World) (G : Glob w) (hg : g < w.heap.size) (h0 : w.cell? ⟨g, 0, none⟩ = some (.bool false)) (h1 : w.cell? ⟨g, 1, none⟩ = some (.int .i64 5)) (h2 : w.cell? ⟨g, 2, none⟩ = some (.int .u8 65)) (h3 : w.cell? ⟨g, 3, none⟩ = some (.int .i64 (-2)))
    (h4 : w.cell? ⟨g, 4, none⟩ = some (.bool true)) (h5 : w.cell? ⟨g, 5, none⟩ = some (.int .i64 6)) (h6 : w.cell? ⟨g, 6, none⟩ = some (.int .u8 0)) (h7 : w.cell? ⟨g, 7, none⟩ = some (.int .i64 0)) :
    Calls Tryz.prog 22 #[.slice (some ⟨g, 0, none⟩) 2 c] w fun e w' => e = .returned (.string ⟨#[69, 32, 53, 32, 65, 32, 45, 50, 10, 77, 32, 54, 10]⟩) ∧ Below w.heap.size w w' := by
  have S0 : Sw w 0 (w.alloc (.cells #[.pointer none, .slice none 0 0] 118)) :=
    ⟨(Below.refl _ w).alloc (Nat.le_refl _) _, by simp, .inl ⟨Nat.le_refl _, .slice none 0 0, Lb.new w #[.pointer none, .slice none 0 0] 118, World.ownsRow_nil _ _ _ _, by simp [Value.ownBlock]⟩⟩
  go_enter Tryz.func22, Tryz.ntmps22
  go_wp2_with fail
  go_loopw [8] (fun v8 wr => ∃ k : Nat, k ≤ 2 ∧ v8 = .int .i64 k ∧ Sw w k wr) (fun v8 _ => 5 - (intOf v8).toNat)
  case atStart => exact ⟨0, by omega, rfl, S0⟩
  case round =>
    obtain ⟨k, hk, rfl, hS⟩ := hrel
    have hl := hS.lt
    have cc := fun o => hS.bl.cell (p := ⟨g, o, none⟩) hg
    rcases (by omega : k = 0 ∨ k = 1 ∨ k = 2) with rfl | rfl | rfl
    · have e0 := (cc 0).trans h0
      have e1 := (cc 1).trans h1
      have e2 := (cc 2).trans h2
      have e3 := (cc 3).trans h3
      have b1 := (Below.refl wr.heap.size wr).alloc (Nat.le_refl _) (.cells #[.bool false, .int .i64 5, .int .u8 65, .int .i64 (-2)] 56)
      clear cc
      go_wp2_with fail
      refine (show_E _ (by exact G.below (hS.bl.trans (b1.mono hS.bl.size)))).mono ?_
      rintro e w2 ⟨rfl, b2⟩
      have b12 := b1.trans (b2.mono b1.size)
      have hB := hS.bl.trans (b12.mono hS.bl.size)
      go_wp2_with fail
      refine (Tryz.Builder_WriteString w.heap.size w.heap.size _ _ _ (by exact isb_below hS.ib b12) (by decide) hB.size).mono ?_
      rintro e w3 ⟨rfl, hat, hb3⟩
      go_wp2
      go_roundw
      case rel => exact ⟨1, by omega, rfl, hB.trans hb3, Nat.lt_of_lt_of_le (Nat.lt_of_lt_of_le hl b12.size) hb3.size, .inr hat⟩
      case measure => decide
    · have e0 := (cc 4).trans h4
      have e1 := (cc 5).trans h5
      have e2 := (cc 6).trans h6
      have e3 := (cc 7).trans h7
      have b1 := (Below.refl wr.heap.size wr).alloc (Nat.le_refl _) (.cells #[.bool true, .int .i64 6, .int .u8 0, .int .i64 0] 56)
      clear cc
      go_wp2_with fail
      refine (show_M _).mono ?_
      rintro e w2 ⟨rfl, b2⟩
      have b12 := b1.trans (b2.mono b1.size)
      have hB := hS.bl.trans (b12.mono hS.bl.size)
      go_wp2_with fail
      refine (Tryz.Builder_WriteString w.heap.size w.heap.size _ _ _ (by exact isb_below hS.ib b12) (by decide) hB.size).mono ?_
      rintro e w3 ⟨rfl, hat, hb3⟩
      go_wp2
      go_roundw
      case rel => exact ⟨2, by omega, rfl, hB.trans hb3, Nat.lt_of_lt_of_le (Nat.lt_of_lt_of_le hl b12.size) hb3.size, .inr hat⟩
      case measure => decide
    · clear cc
      go_wp2_with fail
      refine (Tryz.Builder_String_any w.heap.size w.heap.size _ _ (by exact hS.ib) hS.bl.size).mono ?_
      rintro e w3 ⟨rfl, hb3⟩
      go_wp2
      go_ret
      exact ⟨rfl, hS.bl.trans hb3⟩

theorem own_cells {W : World} {base e size n cap : Nat} {g : Option Addr} {xs : List Value} (h : W.ownsRow base e size (.slice g n cap) n xs) (hn : 0 < n) :
    ∃ b, g = some ⟨b, 0, none⟩ ∧ b < W.heap.size ∧ ∀ j u, xs[j]? = some u → W.cell? ⟨b, j, none⟩ = some u := by
  rcases h.2 with ⟨h0, h1⟩ | ⟨b, cap', cur, he, hr⟩
  · omega
  injection he with he _ _
  subst he
  refine ⟨b, rfl, (h.lt b rfl).2, fun j u hu => ?_⟩
  have := h.cells (g := b) rfl j u hu
  have hadd : (⟨b, 0, none⟩ : Addr).add j = ⟨b, j, none⟩ := by unfold Addr.add; split <;> simp_all
  rwa [hadd] at this

theorem eq_items (w : World) : (binOp .eql 56 (.agg #[.bool false, .int .i64 5, .int .u8 65, .int .i64 (-2)]) (.agg #[.bool false, .int .i64 5, .int .u8 65, .int .i64 (-2)])).run Tryz.prog w = .ok (.bool true) w := by kernel_rfl

set_option maxRecDepth 100000 in
set_option maxHeartbeats 3200000 in
theorem wakes_any (w : World) (G : Glob w) : Calls Tryz.prog 9 #[] w fun e w' => e = .returned (.bool true) ∧ Below w.heap.size w w' := by
  have hq := eq_items
  go_enter Tryz.func9, Tryz.ntmps9
  go_wp2_with fail
  refine (fparse _ G).mono ?_
  rintro e w1 ⟨⟨g, c, rfl, own⟩, hb⟩
  have G1 := G.below hb
  obtain ⟨b, rfl, hlt, hc⟩ := own_cells own (by omega)
  have c0 := hc 0 _ rfl
  have c1 := hc 1 _ rfl
  have c2 := hc 2 _ rfl
  have c3 := hc 3 _ rfl
  have c4 := hc 4 _ rfl
  have c5 := hc 5 _ rfl
  have c6 := hc 6 _ rfl
  have c7 := hc 7 _ rfl
  clear hc own
  go_wp2_with fail
  refine (fshow b c _ G1 hlt c0 c1 c2 c3 c4 c5 c6 c7).mono ?_
  rintro e w2 ⟨rfl, hb2⟩
  go_wp2
  go_ret
  exact ⟨rfl, hb.trans (hb2.mono hb.size)⟩
end Go.Proofs.YthbiiccblcoogaaGreatDoor
