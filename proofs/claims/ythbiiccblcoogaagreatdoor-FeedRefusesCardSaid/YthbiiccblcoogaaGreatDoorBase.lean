/- Words of the walks: a reader in memory, and a world in which one old block alone may have turned. -/
import Derived.Test.YthbiiccblcoogaaGreatDoorProg
import Derived.WalkKit
import Derived.WalkSpells
import Derived.WalkLawsBesides
import Derived.Deep.QuietTactic
import Derived.BigQuiet
import Derived.Deep.RegionWith
import Derived.StillTailTactics
import Derived.Deep.DeepFit
import Derived.Deep.CutBlock
import Derived.Deep.DeepCutAuto
import Derived.Deep.LoopGhost
import Derived.Deep.RegionHeld3
import Derived.Lib.Hide
import Derived.Test.YthbiiccblcoogaaGreatDoorPlain
set_option linter.unusedVariables false
set_option linter.unusedSimpArgs false
namespace Go.Proofs.YthbiiccblcoogaaGreatDoor
open Go.RowKit

/-- Every old block but 'b' is as it was. -/
structure Oth (b : Nat) (w w' : World) : Prop where
  os : w'.os = w.os
  tape : w'.tape = w.tape
  output : w'.output = w.output
  size : w.heap.size ≤ w'.heap.size
  block : ∀ k, k < w.heap.size → k ≠ b → w'.heap[k]? = w.heap[k]?

theorem Oth.refl (b : Nat) (w : World) : Oth b w w := ⟨rfl, rfl, rfl, Nat.le_refl _, fun _ _ _ => rfl⟩
theorem Oth.trans {b : Nat} {w w1 w2 : World} (h : Oth b w w1) (k : Oth b w1 w2) : Oth b w w2 :=
  ⟨k.os.trans h.os, k.tape.trans h.tape, k.output.trans h.output, Nat.le_trans h.size k.size,
    fun i hi hb => (k.block i (Nat.lt_of_lt_of_le hi h.size) hb).trans (h.block i hi hb)⟩
theorem Oth.drew {b : Nat} {w w1 : World} (h : Oth b w w1) : Oth b w w1.drew := ⟨h.os, h.tape, h.output, h.size, h.block⟩
theorem Oth.drewN {b : Nat} {w w1 : World} (h : Oth b w w1) (n : Nat) : Oth b w (w1.drewN n) := ⟨h.os, h.tape, h.output, h.size, h.block⟩
theorem Oth.alloc {b : Nat} {w w1 : World} (h : Oth b w w1) (o : Obj) : Oth b w (w1.alloc o) :=
  h.trans ⟨rfl, rfl, rfl, by simp, fun k hk _ => Below.heap_alloc _ _ _ hk⟩
theorem Oth.setCell {b : Nat} {w w1 : World} (h : Oth b w w1) (o : Nat) (v : Value) : Oth b w (w1.setCell ⟨b, o, none⟩ v) :=
  h.trans ⟨rfl, rfl, rfl, by simp [World.setCell], fun k _ hb => Below.heap_setCell _ _ _ _ hb⟩
theorem Oth.setNew {b : Nat} {w w1 : World} (h : Oth b w w1) {p : Addr} (hp : w.heap.size ≤ p.block) (v : Value) : Oth b w (w1.setCell p v) :=
  ⟨h.os, h.tape, h.output, by simpa [World.setCell] using h.size,
    fun k hk hb => (Below.heap_setCell _ _ _ _ (by omega)).trans (h.block k hk hb)⟩
theorem Oth.of_below {b : Nat} {w w1 : World} (h : Below w.heap.size w w1) : Oth b w w1 :=
  ⟨h.os, h.tape, h.output, h.size, fun k hk _ => h.block k hk⟩
theorem Oth.cell {b : Nat} {w w1 : World} (h : Oth b w w1) {p : Addr} (hp : p.block < w.heap.size) (hb : p.block ≠ b) : w1.cell? p = w.cell? p :=
  World.cell?_of_block (w := w) (h.block p.block hp hb)
theorem Oth.frozen {b : Nat} {w w1 : World} (h : Oth b w w1) {p : Addr} (hp : p.block < w.heap.size) (hb : p.block ≠ b) : w1.frozen? p = w.frozen? p :=
  World.frozen?_of_block (w := w) (h.block p.block hp hb)
theorem Oth.undrew {b : Nat} {w w1 : World} (h : Oth b w.drew w1) : Oth b w w1 := ⟨h.os, h.tape, h.output, h.size, h.block⟩
theorem Oth.undrewN {b n : Nat} {w w1 : World} (h : Oth b (w.drewN n) w1) : Oth b w w1 := ⟨h.os, h.tape, h.output, h.size, h.block⟩
/-- What is below a block that is new to the call. -/
theorem Oth.below {b : Nat} {w w1 : World} (h : Oth b w w1) {B : Nat} (hB : B ≤ b) (hw : B ≤ w.heap.size) : Below B w w1 :=
  ⟨h.os, h.tape, h.output, h.size, fun k hk => h.block k (by omega) (by omega)⟩

theorem mix : Tryz.prog.follows .mixedOrders = true := by kernel_rfl

/-- Draws of the tape alone. -/
def Dr (w w' : World) : Prop := ∃ k, w' = w.drewN k
theorem Dr.refl (w : World) : Dr w w := ⟨0, (World.drewN_zero w).symm⟩
theorem Dr.of (w : World) (k : Nat) : Dr w (w.drewN k) := ⟨k, rfl⟩
theorem Dr.drewN {w w1 : World} (h : Dr w w1) (k : Nat) : Dr w (w1.drewN k) := by
  obtain ⟨n, rfl⟩ := h; exact ⟨n + k, World.drewN_drewN _ _ _⟩
theorem Dr.oth {w w1 : World} (h : Dr w w1) (b : Nat) : Oth b w w1 := by
  obtain ⟨n, rfl⟩ := h; exact (Oth.refl b w).drewN n
theorem ret_eq {v u : Value} (h : v = u) : Ending.returned v = .returned u := by rw [h]
end Go.Proofs.YthbiiccblcoogaaGreatDoor
