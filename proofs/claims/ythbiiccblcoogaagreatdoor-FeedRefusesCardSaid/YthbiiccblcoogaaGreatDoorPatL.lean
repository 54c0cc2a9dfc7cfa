/- The walk of 'pattern': what stands in memory while it goes on. -/
import Derived.Test.YthbiiccblcoogaaGreatDoorPatK
set_option linter.unusedVariables false
set_option linter.unusedSimpArgs false
namespace Go.Proofs.YthbiiccblcoogaaGreatDoor
open Go.RowKit

theorem own_oth {b : Nat} {W W' : World} {base e size n : Nat} {v : Value} {xs : List Value} (h : W.ownsRow base e size v n xs) (ho : Oth b W W') (hb : b < base) : W'.ownsRow base e size v n xs :=
  h.kept (row := some b) ⟨ho.os, ho.tape, ho.output, ho.size, fun k hk hne => ho.block k hk (fun e => hne (by rw [e]))⟩
    (by
      rcases hv : v.ownBlock with _ | k
      · exact .inl rfl
      · right; intro e; injection e with e; have := h.lt k hv; omega)

/-- The walk stands here: these steps and these conditions are read, the reader is at this place. -/
structure St (b : Nat) (s : ByteArray) (w : World) (ls : List Pat.Step) (lc : List Pat.Cond) (v1 v2 : Value) (p : Nat) (wr : World) : Prop where
  le : p ≤ s.size
  rd : Rd wr b s p
  oth : Oth b w wr
  blk : Lb wr w.heap.size #[v1, v2, .int .i64 0] 242
  own1 : wr.ownsRow (w.heap.size + 1) 342 5 v1 ls.length (cellsS ls)
  own2 : wr.ownsRow (w.heap.size + 1) 350 4 v2 lc.length (cellsC lc)
  ne : v1.ownBlock = none ∨ v1.ownBlock ≠ v2.ownBlock

theorem St.via {b : Nat} {s : ByteArray} {w : World} {ls : List Pat.Step} {lc : List Pat.Cond} {v1 v2 : Value} {p q : Nat} {wr W : World} (hb : b < w.heap.size) (h : St b s w ls lc v1 v2 p wr) (hq : q ≤ s.size) (hr : Rd W b s q) (ho : Oth b wr W) : St b s w ls lc v1 v2 q W :=
  ⟨hq, hr, h.oth.trans ho, h.blk.oth ho (by omega), own_oth h.own1 ho (by omega), own_oth h.own2 ho (by omega), h.ne⟩

theorem St.lt {b : Nat} {s : ByteArray} {w : World} {ls : List Pat.Step} {lc : List Pat.Cond} {v1 v2 : Value} {p : Nat} {wr : World} (h : St b s w ls lc v1 v2 p wr) : w.heap.size < wr.heap.size := h.blk.lt

theorem St.appendS {b q gg cap : Nat} {s : ByteArray} {w W2 w3 : World} {ls : List Pat.Step} {lc : List Pat.Cond} {x : Pat.Step} {v v2 : Value} {o : Obj} {xs : List Value} (hbb : b < w.heap.size)
    (h : St b s w ls lc v v2 q W2) (hgrow : (W2.alloc o).grownBy w3 v.ownBlock) {n : Nat} (hn : n = ls.length + 1) (hx : xs = cellsS (ls ++ [x])) (hown : w3.ownsRow (w.heap.size + 1) 342 5 (.slice (some ⟨gg, 0, none⟩) n cap) n xs)
    (hat : v.ownBlock = some gg ∨ gg = W2.heap.size + 1) :
    St b s w (ls ++ [x]) lc (.slice (some ⟨gg, 0, none⟩) n cap) v2 q (w3.setCell ⟨w.heap.size, 0, none⟩ (.slice (some ⟨gg, 0, none⟩) n cap)) := by
  subst hn; subst hx
  have hz := h.lt
  have hgg := hown.lt gg rfl
  have hb' : some b ≠ v.ownBlock := fun e => by have := h.own1.lt b e.symm; omega
  have hw' : some w.heap.size ≠ v.ownBlock := fun e => by have := h.own1.lt _ e.symm; omega
  have el : (ls ++ [x]).length = ls.length + 1 := by simp
  have hne : v2.ownBlock = none ∨ v2.ownBlock ≠ v.ownBlock := by
    rcases h.ne with h0 | h0
    · rw [h0]
      rcases v2.ownBlock with _ | k
      · exact .inl rfl
      · right; simp
    · exact .inr fun e => h0 e.symm
  refine ⟨h.le, ((h.rd.alloc _).grown hgrow hb').other _ _ (by simp; omega), ((h.oth.alloc _).ofGrown hgrow (fun k e => by have := h.own1.lt k e; omega)).new (Nat.le_refl _) _,
    ((h.blk.alloc _).grown hgrow hw').set 0 _, ?_, ?_, ?_⟩
  · rw [el]; exact ownsRow_setCell_other hown (by simp [Value.ownBlock]; omega) _
  · have := (h.own2.alloc o).kept hgrow hne
    exact ownsRow_setCell_other this (fun e => by have := this.lt _ e; simp at this; omega) _
  · rcases hv2 : v2.ownBlock with _ | k
    · right; simp [Value.ownBlock]
    · right
      have hk := h.own2.lt k hv2
      simp only [Value.ownBlock]
      intro e
      injection e with e
      rcases hat with hat | hat
      · rcases h.ne with h0 | h0
        · rw [h0] at hat; cases hat
        · exact h0 (by rw [hat, hv2, e])
      · omega

theorem St.appendC {b q gg cap : Nat} {s : ByteArray} {w W2 w3 : World} {ls : List Pat.Step} {lc : List Pat.Cond} {x : Pat.Cond} {v v2 : Value} {o : Obj} {xs : List Value} (hbb : b < w.heap.size)
    (h : St b s w ls lc v v2 q W2) (hgrow : (W2.alloc o).grownBy w3 v2.ownBlock) {n : Nat} (hn : n = lc.length + 1) (hx : xs = cellsC (lc ++ [x])) (hown : w3.ownsRow (w.heap.size + 1) 350 4 (.slice (some ⟨gg, 0, none⟩) n cap) n xs)
    (hat : v2.ownBlock = some gg ∨ gg = W2.heap.size + 1) :
    St b s w ls (lc ++ [x]) v (.slice (some ⟨gg, 0, none⟩) n cap) q (w3.setCell ⟨w.heap.size, 1, none⟩ (.slice (some ⟨gg, 0, none⟩) n cap)) := by
  subst hn; subst hx
  have hz := h.lt
  have hgg := hown.lt gg rfl
  have hb' : some b ≠ v2.ownBlock := fun e => by have := h.own2.lt b e.symm; omega
  have hw' : some w.heap.size ≠ v2.ownBlock := fun e => by have := h.own2.lt _ e.symm; omega
  have el : (lc ++ [x]).length = lc.length + 1 := by simp
  refine ⟨h.le, ((h.rd.alloc _).grown hgrow hb').other _ _ (by simp; omega), ((h.oth.alloc _).ofGrown hgrow (fun k e => by have := h.own2.lt k e; omega)).new (Nat.le_refl _) _,
    ((h.blk.alloc _).grown hgrow hw').set 1 _, ?_, ?_, ?_⟩
  · have := (h.own1.alloc o).kept hgrow h.ne
    exact ownsRow_setCell_other this (fun e => by have := this.lt _ e; simp at this; omega) _
  · rw [el]; exact ownsRow_setCell_other hown (by simp [Value.ownBlock]; omega) _
  · rcases hv : v.ownBlock with _ | k
    · exact .inl rfl
    · right
      have hk := h.own1.lt k hv
      simp only [Value.ownBlock]
      intro e
      injection e with e
      rcases hat with hat | hat
      · rcases h.ne with h0 | h0
        · rw [hv] at h0; cases h0
        · exact h0 (by rw [hv, hat, e])
      · omega

/-- What a call of 'pattern' gives. -/
def PatR (b : Nat) (s : ByteArray) (w : World) (r : Option (Pat.Pattern × Nat)) (e : Ending) (w' : World) : Prop :=
  match r with
  | none => Fault e ∧ Oth b w w'
  | some (x, q) => ∃ v1 v2, e = .returned (.agg #[v1, v2, .int .i64 x.within]) ∧ q ≤ s.size ∧ Rd w' b s q ∧ Oth b w w' ∧
      w'.ownsRow (w.heap.size + 1) 342 5 v1 x.steps.length (cellsS x.steps) ∧ w'.ownsRow (w.heap.size + 1) 350 4 v2 x.conds.length (cellsC x.conds)

theorem PatR.bad {b : Nat} {s : ByteArray} {w w' : World} {r : Option (Pat.Pattern × Nat)} {e : Ending} (hr : r = none) (hf : Fault e) (ho : Oth b w w') : PatR b s w r e w' := by
  subst hr; exact ⟨hf, ho⟩

/-- A region of which one way ends the call: nothing more is to be shown of it. -/
theorem ended {G : Prop} (w : World) (h : G) (d : wpAny Tryz.prog .any #[] (fun _ _ _ => True) 0 #[] { tmps := #[], defers := [] } w) : G := h

/-- What is left of 'St' when the call's own variable is written. -/
structure Fin5 (b : Nat) (s : ByteArray) (w : World) (ls : List Pat.Step) (lc : List Pat.Cond) (v1 v2 : Value) (q : Nat) (W : World) : Prop where
  le : q ≤ s.size
  rd : Rd W b s q
  oth : Oth b w W
  own1 : W.ownsRow (w.heap.size + 1) 342 5 v1 ls.length (cellsS ls)
  own2 : W.ownsRow (w.heap.size + 1) 350 4 v2 lc.length (cellsC lc)
theorem St.fin {b : Nat} {s : ByteArray} {w : World} {ls : List Pat.Step} {lc : List Pat.Cond} {v1 v2 : Value} {p : Nat} {wr : World} (h : St b s w ls lc v1 v2 p wr) : Fin5 b s w ls lc v1 v2 p wr := ⟨h.le, h.rd, h.oth, h.own1, h.own2⟩
theorem Fin5.set {b : Nat} {s : ByteArray} {w : World} {ls : List Pat.Step} {lc : List Pat.Cond} {v1 v2 : Value} {p : Nat} {W : World} (hb : b < w.heap.size) (h : Fin5 b s w ls lc v1 v2 p W) (i : Nat) (v : Value) : Fin5 b s w ls lc v1 v2 p (W.setCell ⟨w.heap.size, i, none⟩ v) :=
  ⟨h.le, h.rd.other _ _ (by simp; omega), h.oth.new (Nat.le_refl _) _,
    ownsRow_setCell_other h.own1 (fun e => by have := h.own1.lt _ e; simp at this; omega) _,
    ownsRow_setCell_other h.own2 (fun e => by have := h.own2.lt _ e; simp at this; omega) _⟩
theorem PatR.good {b : Nat} {s : ByteArray} {w w' : World} {r : Option (Pat.Pattern × Nat)} {ls : List Pat.Step} {lc : List Pat.Cond} {n : Int} {q : Nat} {v1 v2 : Value} (hr : some (⟨ls, lc, n⟩, q) = r) (h : Fin5 b s w ls lc v1 v2 q w') :
    PatR b s w r (.returned (.agg #[v1, v2, .int .i64 n])) w' := by
  subst hr; exact ⟨v1, v2, rfl, h.le, h.rd, h.oth, h.own1, h.own2⟩
end Go.Proofs.YthbiiccblcoogaaGreatDoor
