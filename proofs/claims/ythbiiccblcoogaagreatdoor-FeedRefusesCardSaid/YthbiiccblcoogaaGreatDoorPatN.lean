/- pattern.Parse's deferred function. -/
import Derived.Test.YthbiiccblcoogaaGreatDoorPatM
import Derived.Defers
import Derived.Recover
import Derived.Laws.Pointers
set_option linter.unusedVariables false
set_option linter.unusedSimpArgs false
namespace Go.Proofs.YthbiiccblcoogaaGreatDoor
open Go.RowKit

theorem below_drewN {N : Nat} {a w : World} (h : Below N a w) (k : Nat) : Below N a (w.drewN k) := ⟨h.os, h.tape, h.output, h.size, h.block⟩
theorem as334 (v : Value) (W : World) : (Instr.typeAssert (.iface 334 v) 20 334 true).run Tryz.prog W = .ok (.tuple #[v, .bool true]) W := by kernel_rfl

set_option maxRecDepth 100000 in
set_option maxHeartbeats 1600000 in
theorem catch_fault (B A C : Nat) (a c x y : Int) (z0 z1 z2 : Value) (older : List PanicEntry) (w : World) (hB : Lb w B #[z0, z1, z2] 242) (hA : Lb w A #[.int .i64 x] 3) (hC : Lb w C #[.int .i64 y] 30) (h1 : B ≠ A) (h2 : B ≠ C) (h3 : A ≠ C) :
    CallsD Tryz.prog 168 #[.pointer (some ⟨B, 0, none⟩), .pointer (some ⟨A, 0, none⟩), .pointer (some ⟨C, 0, none⟩)] (.panicking ({ v := .iface 334 (.agg #[.int .i64 a, .int .i64 c]), recovered := false } :: older)) w fun e u' w' =>
      e = .returned (.tuple #[]) ∧ u' = .panicking ({ v := .iface 334 (.agg #[.int .i64 a, .int .i64 c]), recovered := true } :: older) ∧
      Lb w' B #[.slice none 0 0, .slice none 0 0, .int .i64 0] 242 ∧ Lb w' A #[.int .i64 a] 3 ∧ Lb w' C #[.int .i64 c] 30 ∧ (∀ N, N ≤ B → N ≤ A → N ≤ C → N ≤ w.heap.size → Below N w w') := by
  have zB := hB.lt
  have zA := hA.lt
  have zC := hC.lt
  refine callsD_of_wpS Tryz.func168 rfl fun c₀ cs hu => ?_
  apply wpS_seq
  apply wpS_region
  simp [wpOpsS, go_sem, recoverD, hu, Tryz.ntmps168, Exit.thenS, as334]
  refine wpS_of_wp ?_
  have L := Lb.new w #[.int .i64 a, .int .i64 c] 334
  have B' := hB.alloc (.cells #[.int .i64 a, .int .i64 c] 334)
  have A' := hA.alloc (.cells #[.int .i64 a, .int .i64 c] 334)
  have C' := hC.alloc (.cells #[.int .i64 a, .int .i64 c] 334)
  refine Code.wp_mono (Q := fun e a' w' => e = .normal ∧ a'.defers = [] ∧ ∃ k, w' = (((((((w.alloc (.cells #[.int .i64 a, .int .i64 c] 334)).drewN k).setCell ⟨B, 0, none⟩ (.slice none 0 0)).setCell ⟨B, 1, none⟩ (.slice none 0 0)).setCell ⟨B, 2, none⟩ (.int .i64 0)).setCell ⟨A, 0, none⟩ (.int .i64 a)).setCell ⟨C, 0, none⟩ (.int .i64 c))) ?_ ?_
  · rintro e a' w' ⟨rfl, hd, k, rfl⟩
    refine ⟨hd, _, rfl, .tuple #[], by simp [results, Tryz.results168, go_sem], rfl, rfl, ?_, ?_, ?_, ?_⟩
    · exact ((((((B'.drewN k).set 0 (.slice none 0 0)).set 1 (.slice none 0 0)).set 2 (.int .i64 0)).other ⟨A, 0, none⟩ _ h1).other ⟨C, 0, none⟩ _ h2)
    · exact ((((((A'.drewN k).other ⟨B, 0, none⟩ (.slice none 0 0) h1.symm).other ⟨B, 1, none⟩ (.slice none 0 0) h1.symm).other ⟨B, 2, none⟩ (.int .i64 0) h1.symm).set 0 (.int .i64 a)).other ⟨C, 0, none⟩ _ h3)
    · exact ((((((C'.drewN k).other ⟨B, 0, none⟩ (.slice none 0 0) h2.symm).other ⟨B, 1, none⟩ (.slice none 0 0) h2.symm).other ⟨B, 2, none⟩ (.int .i64 0) h2.symm).other ⟨A, 0, none⟩ _ h3.symm).set 0 (.int .i64 c))
    · intro N n1 n2 n3 n4
      exact ((((((below_drewN ((Below.refl N w).alloc n4 _) k).setCell (p := ⟨B, 0, none⟩) n1 _).setCell (p := ⟨B, 1, none⟩) n1 _).setCell (p := ⟨B, 2, none⟩) n1 _).setCell (p := ⟨A, 0, none⟩) n2 _).setCell (p := ⟨C, 0, none⟩) n3 _)
  clear hu
  have l0 := L.cell 0 _ rfl
  have l1 := L.cell 1 _ rfl
  have b0 := B'.cell 0 _ rfl
  have b1 := B'.cell 1 _ rfl
  have b2 := B'.cell 2 _ rfl
  have a0 := A'.cell 0 _ rfl
  have e0 := C'.cell 0 _ rfl
  have fb := fun i => B'.frozen i
  have fa := fun i => A'.frozen i
  have fc := fun i => C'.frozen i
  generalize w.alloc (.cells #[.int .i64 a, .int .i64 c] 334) = W at *
  rw [show Array.replicate 13 undef = #[undef, undef, undef, undef, undef, undef, undef, undef, undef, undef, undef, undef, undef] from rfl]
  simp only [List.setIfInBounds_toArray, List.set_cons_zero, List.set_cons_succ, List.append_toArray, List.cons_append, List.nil_append]
  have n1 : ¬ B = w.heap.size := by omega
  have n2 : ¬ A = w.heap.size := by omega
  have n3 : ¬ C = w.heap.size := by omega
  have n4 : ¬ w.heap.size = B := by omega
  have n5 : ¬ w.heap.size = A := by omega
  have n6 : ¬ w.heap.size = C := by omega
  have n7 := h1.symm
  have n8 := h2.symm
  have n9 := h3.symm
  go_wp2_with fail
  go_region
  all_goals
    go_wp2
    exact ⟨1, rfl⟩

theorem as334nil (W : World) : (Instr.typeAssert .nilIface 20 334 true).run Tryz.prog W = .ok (.tuple #[.agg #[.int .i64 0, .int .i64 0], .bool false]) W := by kernel_rfl

set_option maxRecDepth 100000 in
set_option maxHeartbeats 1600000 in
theorem catch_idle (p q r : Value) (w : World) :
    CallsD Tryz.prog 168 #[p, q, r] .returning w fun e u' w' => e = .returned (.tuple #[]) ∧ u' = .returning ∧ ∃ o, w' = w.alloc o := by
  refine callsD_of_wpS Tryz.func168 rfl fun c₀ cs hu => ?_
  apply wpS_seq
  apply wpS_region
  simp [wpOpsS, go_sem, recoverD, hu, Tryz.ntmps168, Exit.thenS, as334nil]
  refine wpS_of_wp ?_
  rw [show Array.replicate 13 undef = #[undef, undef, undef, undef, undef, undef, undef, undef, undef, undef, undef, undef, undef] from rfl]
  simp only [List.setIfInBounds_toArray, List.set_cons_zero, List.set_cons_succ, List.append_toArray, List.cons_append, List.nil_append]
  refine Code.wp_mono (Q := fun e a' w' => e = .normal ∧ a'.defers = [] ∧ ∃ o, w' = w.alloc o) ?_ ?_
  · rintro e a' w' ⟨rfl, hd, o, rfl⟩
    exact ⟨hd, _, by simp [← hu], .tuple #[], by simp [results, Tryz.results168, go_sem], rfl, rfl, o, rfl⟩
  go_wp2
  exact ⟨_, rfl⟩
end Go.Proofs.YthbiiccblcoogaaGreatDoor
