/- Plain laws: the definitions' reader against the reader of the plain language. -/
import Derived.Test.YthbiiccblcoogaaGreatDoorRefI
set_option linter.unusedVariables false
set_option linter.unusedSimpArgs false
namespace Go.Proofs.YthbiiccblcoogaaGreatDoor
open Go.RowKit

/-- From 'some n' a state function gives what the plain one gives; where that fails, a fault. -/
def Agrees {α : Type} (r : Option (α × Nat)) (p : α × Option Nat) : Prop :=
  match r with
  | some (x, q) => p = (x, some q)
  | none => p.2 = none

theorem Agrees.no {α : Type} {p : α × Option Nat} (h : p.2 = none) : Agrees none p := h
theorem Agrees.yes {α : Type} {p : α × Option Nat} {x : α} {q : Nat} (h : p = (x, some q)) : Agrees (some (x, q)) p := h
theorem tk_nil (l : List UInt8) (ul uh : UInt8) : tk l none ul uh = (0, none) := rfl
theorem nx_nil (l : List UInt8) (ul uh : UInt8) : nx l none ul uh = false := rfl
theorem nm_nil (l : List UInt8) (ul : UInt8) : nm l none ul = (0, none) := rfl
theorem tk_of_none {l : List UInt8} {n : Nat} {ul uh : UInt8} (h : Pat.one l ul uh n = none) : tk l (some n) ul uh = (0, none) := by simp only [tk, h]
theorem tk_of_some {l : List UInt8} {n q : Nat} {ul uh c : UInt8} (h : Pat.one l ul uh n = some (c, q)) : tk l (some n) ul uh = (c, some q) := by simp only [tk, h]
theorem nm_of_none {l : List UInt8} {n : Nat} {ul : UInt8} (h : Pat.number l ul n = none) : nm l (some n) ul = (0, none) := by simp only [nm, h]
theorem nm_of_some {l : List UInt8} {n q : Nat} {ul : UInt8} {v : Int} (h : Pat.number l ul n = some (v, q)) : nm l (some n) ul = (v, some q) := by simp only [nm, h]
theorem isB_one {l : List UInt8} {c : UInt8} {n : Nat} (h : Pat.isB l c c n = true) : Pat.one l c c n = some (c, n + 1) := by
  unfold Pat.isB at h
  unfold Pat.one
  split at h
  · rename_i b hb
    have hc := of_decide_eq_true h
    have : b = c := UInt8.le_antisymm hc.2 hc.1
    subst this
    rw [if_pos hc]
  · cases h

theorem rstepTail_nil (l : List UInt8) (k n : UInt8) (neg : Bool) : rstepTail l k n neg none = (⟨k, n, neg, 1, 1⟩, none) := by
  unfold rstepTail; rw [nx_nil]; rfl
theorem rstep_nil (l : List UInt8) (A : Nat) : (rstep l A none).2 = none := by
  have h1 : rstepHead l A none = none := by unfold rstepHead; rw [nx_nil]; rfl
  have h2 : (if 8 ≤ A then none else (none : Option Nat)) = none := by split <;> rfl
  simp only [rstep, h1, tk_nil, h2, rstepTail_nil]

theorem rstep_eight (l : List UInt8) (A : Nat) (st : Option Nat) (hA : 8 ≤ A) : (rstep l A st).2 = none := by
  simp only [rstep, if_pos hA, tk_nil, rstepTail_nil]

/-- step. -/
theorem rstep_agrees (l : List UInt8) (A n : Nat) (hA : A ≤ 8) : Agrees (Pat.step l A n) (rstep l A (some n)) := by
  by_cases h8 : A = 8
  · have : Pat.step l A n = none := by unfold Pat.step; rw [if_pos h8]
    rw [this]
    exact rstep_eight l A _ (by omega)
  have hn8 : ¬ 8 ≤ A := by omega
  rw [step_eq l A n h8]
  have hh : rstepHead l A (some n) = some (if Pat.isB l 33 33 n then n + 1 else n) := by
    unfold rstepHead
    show (if Pat.isB l 33 33 n = true then _ else _) = _
    by_cases hb : Pat.isB l 33 33 n = true
    · rw [if_pos hb, if_neg hn8, if_pos hb, tk_of_some (isB_one hb)]
    · rw [if_neg hb, if_neg hb]
  have hneg : nx l (some n) 33 33 = Pat.isB l 33 33 n := rfl
  simp only [rstep, hh, if_neg hn8, hneg]
  generalize Pat.isB l 33 33 n = neg
  generalize (if neg = true then n + 1 else n) = n1
  rcases h1 : Pat.one l 65 90 n1 with _ | ⟨k, a1⟩
  · simp only [tk_of_none h1, tk_nil, rstepTail_nil]; exact Agrees.no rfl
  simp only [tk_of_some h1]
  rcases h2 : Pat.one l 32 32 a1 with _ | ⟨x, a2⟩
  · simp only [tk_of_none h2, tk_nil, rstepTail_nil]; exact Agrees.no rfl
  simp only [tk_of_some h2]
  rcases h3 : Pat.one l 97 122 a2 with _ | ⟨m, a3⟩
  · simp only [tk_of_none h3, rstepTail_nil]; exact Agrees.no rfl
  simp only [tk_of_some h3]
  unfold stepTail rstepTail
  have hb3 : nx l (some a3) 123 123 = Pat.isB l 123 123 a3 := rfl
  rw [hb3]
  by_cases hb : Pat.isB l 123 123 a3 = true
  · rw [if_pos hb, if_pos hb]
    rcases neg with _ | _
    · simp only [Bool.false_eq_true, if_false, tk_of_some (isB_one hb)]
      rcases h4 : Pat.number l 48 (a3 + 1) with _ | ⟨lo, a4⟩
      · simp only [nm_of_none h4, tk_nil, nm_nil]
        rw [if_pos (.inl (by decide))]; exact Agrees.no rfl
      simp only [nm_of_some h4]
      rcases h5 : Pat.one l 44 44 a4 with _ | ⟨y, a5⟩
      · simp only [tk_of_none h5, tk_nil, nm_nil]
        rw [if_pos (.inr (.inr (.inr (by decide))))]; exact Agrees.no rfl
      simp only [tk_of_some h5]
      rcases h6 : Pat.number l 48 a5 with _ | ⟨hi, a6⟩
      · simp only [nm_of_none h6, tk_nil]
        rw [if_pos (.inr (.inr (.inr (by decide))))]; exact Agrees.no rfl
      simp only [nm_of_some h6]
      rcases h7 : Pat.one l 125 125 a6 with _ | ⟨z, a7⟩
      · simp only [tk_of_none h7]
        split <;> exact Agrees.no rfl
      simp only [tk_of_some h7]
      by_cases hc : lo < 1 ∨ hi < lo ∨ 4 < hi ∨ hi = 1
      · rw [if_pos hc, if_pos (by omega)]; exact Agrees.no rfl
      · rw [if_neg hc, if_neg (by omega)]; exact Agrees.yes rfl
    · rw [if_pos rfl, if_pos rfl]; exact Agrees.no rfl
  · rw [if_neg hb, if_neg hb]; exact Agrees.yes rfl
end Go.Proofs.YthbiiccblcoogaaGreatDoor

/- Plain laws: op, signed, cond. -/
namespace Go.Proofs.YthbiiccblcoogaaGreatDoor
open Go.RowKit

theorem isB_wide {l : List UInt8} {c lo hi : UInt8} {n : Nat} (h : Pat.isB l c c n = true) (h1 : lo ≤ c) (h2 : c ≤ hi) : Pat.one l lo hi n = some (c, n + 1) := by
  unfold Pat.isB at h
  unfold Pat.one
  split at h
  · rename_i b hb
    have hc := of_decide_eq_true h
    have : b = c := UInt8.le_antisymm hc.2 hc.1
    subst this
    rw [if_pos ⟨h1, h2⟩]
  · cases h

theorem rop_nil (l : List UInt8) : (rop l none).2 = none := by
  simp only [rop, tk_nil, nx_nil]; rfl
theorem rsigned_nil (l : List UInt8) : (rsigned l none).2 = none := by
  simp only [rsigned, tk_nil, nx_nil, nm_nil]; rfl
theorem rcondTail_nil (l : List UInt8) (k : UInt8) (o : Int) : (rcondTail l k o none).2 = none := by
  simp only [rcondTail, tk_nil, nx_nil]; rfl
theorem rcond_nil (l : List UInt8) (A : Nat) : (rcond l A none).2 = none := by
  have h2 : (if 16 ≤ A then none else (none : Option Nat)) = none := by split <;> rfl
  simp only [rcond, tk_nil, h2, rop_nil, rcondTail_nil]
theorem rcond_full (l : List UInt8) (A : Nat) (st : Option Nat) (hA : 16 ≤ A) : (rcond l A st).2 = none := by
  simp only [rcond, if_pos hA, rop_nil, rcondTail_nil]

theorem rop_agrees (l : List UInt8) (n : Nat) : Agrees (Pat.op l n) (rop l (some n)) := by
  have e1 : nx l (some n) 60 60 = Pat.isB l 60 60 n := rfl
  have e2 : nx l (some n) 62 62 = Pat.isB l 62 62 n := rfl
  have e3 : nx l (some n) 33 33 = Pat.isB l 33 33 n := rfl
  have e4 : ∀ m, nx l (some m) 61 61 = Pat.isB l 61 61 m := fun _ => rfl
  unfold Pat.op rop
  rw [e1, e2, e3]
  by_cases h1 : Pat.isB l 60 60 n = true
  · simp only [if_pos h1, tk_of_some (isB_wide (lo := 60) (hi := 62) h1 (by decide) (by decide)), e4]
    by_cases h : Pat.isB l 61 61 (n + 1) = true
    · simp only [if_pos h, tk_of_some (isB_one h)]; exact Agrees.yes rfl
    · simp only [if_neg h]; exact Agrees.yes rfl
  rw [if_neg h1, if_neg h1]
  by_cases h2 : Pat.isB l 62 62 n = true
  · simp only [if_pos h2, tk_of_some (isB_wide (lo := 60) (hi := 62) h2 (by decide) (by decide)), e4]
    by_cases h : Pat.isB l 61 61 (n + 1) = true
    · simp only [if_pos h, tk_of_some (isB_one h)]; exact Agrees.yes rfl
    · simp only [if_neg h]; exact Agrees.yes rfl
  rw [if_neg h2, if_neg h2]
  by_cases h3 : Pat.isB l 33 33 n = true
  · rw [if_pos h3, if_pos h3, show (ByteArray.mk #[33, 61]).data.toList = [33, 61] from rfl, wd_some, Pat.word, isB_one h3]
    simp only [Pat.word]
    rcases Pat.one l 61 61 (n + 1) with _ | ⟨x, q⟩
    · exact Agrees.no rfl
    · exact Agrees.yes rfl
  rw [if_neg h3, if_neg h3]
  rcases h : Pat.one l 61 61 n with _ | ⟨x, q⟩
  · rw [tk_of_none h]; exact Agrees.no rfl
  · rw [tk_of_some h]; exact Agrees.yes rfl

theorem rsigned_minus (l : List UInt8) (n : Nat) (h : Pat.isB l 45 45 n = true) : rsigned l (some n) = (-(nm l (some (n + 1)) 49).1, (nm l (some (n + 1)) 49).2) := by
  have e1 : nx l (some n) 45 45 = Pat.isB l 45 45 n := rfl
  simp only [rsigned, e1, if_pos h, tk_of_some (isB_one h)]
theorem rsigned_plus (l : List UInt8) (n : Nat) (h : Pat.isB l 43 43 n = true) : rsigned l (some n) = nm l (some (n + 1)) 49 := by
  have e1 : nx l (some n) 45 45 = Pat.isB l 45 45 n := rfl
  have h0 : Pat.isB l 45 45 n = false := by
    unfold Pat.isB at h ⊢
    split at h
    · rename_i b hb
      have hc := of_decide_eq_true h
      have : b = 43 := UInt8.le_antisymm hc.2 hc.1
      subst this
      decide
    · cases h
  simp only [rsigned, e1, h0, Bool.false_eq_true, if_false, tk_of_some (isB_one h)]

theorem rcond_agrees (l : List UInt8) (A n : Nat) (hA : A ≤ 16) : Agrees (Pat.cond l A n) (rcond l A (some n)) := by
  by_cases h8 : A = 16
  · have : Pat.cond l A n = none := by unfold Pat.cond; rw [if_pos h8]
    rw [this]
    exact rcond_full l A _ (by omega)
  have hn8 : ¬ 16 ≤ A := by omega
  unfold Pat.cond
  rw [if_neg h8]
  simp only [rcond, if_neg hn8]
  rcases h1 : Pat.one l 97 122 n with _ | ⟨k, a1⟩
  · simp only [tk_of_none h1]
    exact Agrees.no (by rw [rop_nil, rcondTail_nil])
  simp only [tk_of_some h1]
  have ho := rop_agrees l a1
  rcases h2 : Pat.op l a1 with _ | ⟨o, a2⟩
  · rw [h2] at ho
    exact Agrees.no (by rw [show (rop l (some a1)).2 = none from ho, rcondTail_nil])
  rw [h2] at ho
  rw [show rop l (some a1) = (o, some a2) from ho]
  simp only [rcondTail]
  have e1 : nx l (some a2) 48 57 = Pat.isB l 48 57 a2 := rfl
  have e2 : nx l (some a2) 45 45 = Pat.isB l 45 45 a2 := rfl
  rw [e1, e2]
  by_cases hm : Pat.isB l 45 45 a2 = true
  · have hd : ¬ Pat.isB l 48 57 a2 = true := by
      unfold Pat.isB at hm ⊢
      split at hm
      · rename_i b hb
        have hc := of_decide_eq_true hm
        have : b = 45 := UInt8.le_antisymm hc.2 hc.1
        subst this
        decide
      · cases hm
    rw [if_pos hm, if_neg hd, if_pos hm, rsigned_minus l a2 hm]
    rcases h3 : Pat.number l 49 (a2 + 1) with _ | ⟨v, q⟩
    · simp only [nm_of_none h3]; exact Agrees.no rfl
    · simp only [nm_of_some h3]; exact Agrees.yes rfl
  rw [if_neg hm]
  by_cases hd : Pat.isB l 48 57 a2 = true
  · rw [if_pos hd, if_pos hd]
    rcases h3 : Pat.number l 48 a2 with _ | ⟨v, q⟩
    · simp only [nm_of_none h3]; exact Agrees.no rfl
    · simp only [nm_of_some h3]; exact Agrees.yes rfl
  rw [if_neg hd, if_neg hd, if_neg hm]
  rcases h3 : Pat.one l 97 122 a2 with _ | ⟨r, a3⟩
  · simp only [tk_of_none h3, nx_nil]; exact Agrees.no rfl
  simp only [tk_of_some h3]
  have e3 : nx l (some a3) 43 43 = Pat.isB l 43 43 a3 := rfl
  have e4 : nx l (some a3) 45 45 = Pat.isB l 45 45 a3 := rfl
  rw [e3, e4]
  by_cases hp : Pat.isB l 43 43 a3 = true
  · rw [if_pos hp, if_pos (.inl hp), rsigned_plus l a3 hp]
    rcases h4 : Pat.number l 49 (a3 + 1) with _ | ⟨v, q⟩
    · simp only [nm_of_none h4]; exact Agrees.no rfl
    · simp only [nm_of_some h4]; exact Agrees.yes rfl
  rw [if_neg hp]
  by_cases hq : Pat.isB l 45 45 a3 = true
  · rw [if_pos hq, if_pos (.inr hq), rsigned_minus l a3 hq]
    rcases h4 : Pat.number l 49 (a3 + 1) with _ | ⟨v, q⟩
    · simp only [nm_of_none h4]; exact Agrees.no rfl
    · simp only [nm_of_some h4]; exact Agrees.yes rfl
  rw [if_neg hq, if_neg (by rintro (h | h) <;> contradiction)]
  exact Agrees.yes rfl
end Go.Proofs.YthbiiccblcoogaaGreatDoor

/- The walk of the definitions' Parse: what stands in memory while it goes on. (Printed from PatL by a program.) -/
namespace Go.Proofs.YthbiiccblcoogaaGreatDoor
open Go.RowKit

theorem Rr.grown {w w' : World} {b : Nat} {s : ByteArray} {st : Option Nat} {row : Option Nat} (h : Rr w b s st) (hg : w.grownBy w' row) (hb : some b ≠ row) : Rr w' b s st := by
  obtain ⟨n, e, q, h, r⟩ := h; exact ⟨n, e, q, h.grown hg hb, r⟩

/-- The walk stands here: these steps and these conditions are read, the reader is at this place. -/
structure Rt (b : Nat) (s : ByteArray) (w : World) (ls : List Pat.Step) (lc : List Pat.Cond) (v1 v2 : Value) (p : Option Nat) (wr : World) : Prop where
  rd : Rr wr b s p
  oth : Oth b w wr
  blk : Lb wr w.heap.size #[v1, v2, .int .i64 0] 75
  own1 : wr.ownsRow (w.heap.size + 1) 130 5 v1 ls.length (cellsS ls)
  own2 : wr.ownsRow (w.heap.size + 1) 135 4 v2 lc.length (cellsC lc)
  ne : v1.ownBlock = none ∨ v1.ownBlock ≠ v2.ownBlock

theorem Rt.via {b : Nat} {s : ByteArray} {w : World} {ls : List Pat.Step} {lc : List Pat.Cond} {v1 v2 : Value} {p q : Option Nat} {wr W : World} (hb : b < w.heap.size) (h : Rt b s w ls lc v1 v2 p wr) (hr : Rr W b s q) (ho : Oth b wr W) : Rt b s w ls lc v1 v2 q W :=
  ⟨hr, h.oth.trans ho, h.blk.oth ho (by omega), own_oth h.own1 ho (by omega), own_oth h.own2 ho (by omega), h.ne⟩

theorem Rt.lt {b : Nat} {s : ByteArray} {w : World} {ls : List Pat.Step} {lc : List Pat.Cond} {v1 v2 : Value} {p : Option Nat} {wr : World} (h : Rt b s w ls lc v1 v2 p wr) : w.heap.size < wr.heap.size := h.blk.lt

theorem Rt.appendS {b gg cap : Nat} {q : Option Nat} {s : ByteArray} {w W2 w3 : World} {ls : List Pat.Step} {lc : List Pat.Cond} {x : Pat.Step} {v v2 : Value} {o : Obj} {xs : List Value} (hbb : b < w.heap.size)
    (h : Rt b s w ls lc v v2 q W2) (hgrow : (W2.alloc o).grownBy w3 v.ownBlock) {n : Nat} (hn : n = ls.length + 1) (hx : xs = cellsS (ls ++ [x])) (hown : w3.ownsRow (w.heap.size + 1) 130 5 (.slice (some ⟨gg, 0, none⟩) n cap) n xs)
    (hat : v.ownBlock = some gg ∨ gg = W2.heap.size + 1) :
    Rt b s w (ls ++ [x]) lc (.slice (some ⟨gg, 0, none⟩) n cap) v2 q (w3.setCell ⟨w.heap.size, 0, none⟩ (.slice (some ⟨gg, 0, none⟩) n cap)) := by
  subst hn; subst hx
  have hz := h.lt
  have hgg := hown.lt gg rfl
  have hb' : some b ≠ v.ownBlock := fun e => by have := h.own1.lt b e.symm; omega
  have hw' : some w.heap.size ≠ v.ownBlock := fun e => by have := h.own1.lt _ e.symm; omega
  have el : (ls ++ [x]).length = ls.length + 1 := by simp
  have hne : v2.ownBlock = none ∨ v2.ownBlock ≠ v.ownBlock := by
    rcases h.ne with h0 | h0
    · rw [h0]
      rcases v2.ownBlock with _ | k
      · exact .inl rfl
      · right; simp
    · exact .inr fun e => h0 e.symm
  refine ⟨((h.rd.alloc _).grown hgrow hb').other _ _ (by simp; omega), ((h.oth.alloc _).ofGrown hgrow (fun k e => by have := h.own1.lt k e; omega)).new (Nat.le_refl _) _,
    ((h.blk.alloc _).grown hgrow hw').set 0 _, ?_, ?_, ?_⟩
  · rw [el]; exact ownsRow_setCell_other hown (by simp [Value.ownBlock]; omega) _
  · have := (h.own2.alloc o).kept hgrow hne
    exact ownsRow_setCell_other this (fun e => by have := this.lt _ e; simp at this; omega) _
  · rcases hv2 : v2.ownBlock with _ | k
    · right; simp [Value.ownBlock]
    · right
      have hk := h.own2.lt k hv2
      simp only [Value.ownBlock]
      intro e
      injection e with e
      rcases hat with hat | hat
      · rcases h.ne with h0 | h0
        · rw [h0] at hat; cases hat
        · exact h0 (by rw [hat, hv2, e])
      · omega

theorem Rt.appendC {b gg cap : Nat} {q : Option Nat} {s : ByteArray} {w W2 w3 : World} {ls : List Pat.Step} {lc : List Pat.Cond} {x : Pat.Cond} {v v2 : Value} {o : Obj} {xs : List Value} (hbb : b < w.heap.size)
    (h : Rt b s w ls lc v v2 q W2) (hgrow : (W2.alloc o).grownBy w3 v2.ownBlock) {n : Nat} (hn : n = lc.length + 1) (hx : xs = cellsC (lc ++ [x])) (hown : w3.ownsRow (w.heap.size + 1) 135 4 (.slice (some ⟨gg, 0, none⟩) n cap) n xs)
    (hat : v2.ownBlock = some gg ∨ gg = W2.heap.size + 1) :
    Rt b s w ls (lc ++ [x]) v (.slice (some ⟨gg, 0, none⟩) n cap) q (w3.setCell ⟨w.heap.size, 1, none⟩ (.slice (some ⟨gg, 0, none⟩) n cap)) := by
  subst hn; subst hx
  have hz := h.lt
  have hgg := hown.lt gg rfl
  have hb' : some b ≠ v2.ownBlock := fun e => by have := h.own2.lt b e.symm; omega
  have hw' : some w.heap.size ≠ v2.ownBlock := fun e => by have := h.own2.lt _ e.symm; omega
  have el : (lc ++ [x]).length = lc.length + 1 := by simp
  refine ⟨((h.rd.alloc _).grown hgrow hb').other _ _ (by simp; omega), ((h.oth.alloc _).ofGrown hgrow (fun k e => by have := h.own2.lt k e; omega)).new (Nat.le_refl _) _,
    ((h.blk.alloc _).grown hgrow hw').set 1 _, ?_, ?_, ?_⟩
  · have := (h.own1.alloc o).kept hgrow h.ne
    exact ownsRow_setCell_other this (fun e => by have := this.lt _ e; simp at this; omega) _
  · rw [el]; exact ownsRow_setCell_other hown (by simp [Value.ownBlock]; omega) _
  · rcases hv : v.ownBlock with _ | k
    · exact .inl rfl
    · right
      have hk := h.own1.lt k hv
      simp only [Value.ownBlock]
      intro e
      injection e with e
      rcases hat with hat | hat
      · rcases h.ne with h0 | h0
        · rw [hv] at h0; cases h0
        · exact h0 (by rw [hv, hat, e])
      · omega

/-- What is left of 'Rt' when the call's own variable is written. -/
structure Fin6 (b : Nat) (s : ByteArray) (w : World) (ls : List Pat.Step) (lc : List Pat.Cond) (v1 v2 : Value) (q : Option Nat) (W : World) : Prop where
  rd : Rr W b s q
  oth : Oth b w W
  own1 : W.ownsRow (w.heap.size + 1) 130 5 v1 ls.length (cellsS ls)
  own2 : W.ownsRow (w.heap.size + 1) 135 4 v2 lc.length (cellsC lc)
theorem Rt.fin {b : Nat} {s : ByteArray} {w : World} {ls : List Pat.Step} {lc : List Pat.Cond} {v1 v2 : Value} {p : Option Nat} {wr : World} (h : Rt b s w ls lc v1 v2 p wr) : Fin6 b s w ls lc v1 v2 p wr := ⟨h.rd, h.oth, h.own1, h.own2⟩
theorem Fin6.set {b : Nat} {s : ByteArray} {w : World} {ls : List Pat.Step} {lc : List Pat.Cond} {v1 v2 : Value} {p : Option Nat} {W : World} (hb : b < w.heap.size) (h : Fin6 b s w ls lc v1 v2 p W) (i : Nat) (v : Value) : Fin6 b s w ls lc v1 v2 p (W.setCell ⟨w.heap.size, i, none⟩ v) :=
  ⟨h.rd.other _ _ (by simp; omega), h.oth.new (Nat.le_refl _) _,
    ownsRow_setCell_other h.own1 (fun e => by have := h.own1.lt _ e; simp at this; omega) _,
    ownsRow_setCell_other h.own2 (fun e => by have := h.own2.lt _ e; simp at this; omega) _⟩
end Go.Proofs.YthbiiccblcoogaaGreatDoor
