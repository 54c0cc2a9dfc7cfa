/- feed.item, at the two lines that the law fixes. -/
import Derived.Test.YthbiiccblcoogaaGreatDoorFeedA
import Derived.Test.YthbiiccblcoogaaGreatDoorPatF
set_option linter.unusedVariables false
set_option linter.unusedSimpArgs false
namespace Go.Proofs.YthbiiccblcoogaaGreatDoor
open Go.RowKit

theorem szal (w : World) (o : Obj) : (w.alloc o).heap.size = w.heap.size + 1 := by simp
theorem lb_below {W W' : World} {B T N : Nat} {z : Array Value} (h : Lb W B z T) (hb : Below N W W') (hN : B < N) : Lb W' B z T := by
  unfold Lb at *
  rw [hb.block B hN]; exact h

theorem number_is (v : Int) (s : ByteArray) (hs : (⟨(Lib.itoa v).toArray⟩ : ByteArray) = s) (h : Lib.parseIntB 64 (Lib.itoa v) = .ok v) (h1 : -9007199254740992 ≤ v) (h2 : v ≤ 9007199254740992) (hsz : s.size ≤ 100) (w : World) (G : Glob w) :
    Calls Tryz.prog 75 #[.string s] w fun e w' => e = .returned (.tuple #[.int .i64 v, .bool true]) ∧ Below w.heap.size w w' := by
  subst hs; exact number_ok v h h1 h2 hsz w G

theorem split_E (w : World) (G : Glob w) : Calls Tryz.prog 74 #[.string ⟨#[69, 32, 53, 32, 65, 32, 45, 50]⟩, .string ⟨#[32]⟩] w fun e w' =>
    e = .returned (.slice (some ⟨w.heap.size, 0, none⟩) 4 4) ∧ w' = w.alloc (.cells #[.string ⟨#[69]⟩, .string ⟨#[53]⟩, .string ⟨#[65]⟩, .string ⟨#[45, 50]⟩] 9) := by
  obtain ⟨m, hm⟩ := G.m
  have h := Tryz.strings_Split ⟨#[69, 32, 53, 32, 65, 32, 45, 50]⟩ ⟨#[32]⟩ m w (by decide) hm (by decide)
  rw [show Lib.countB ⟨#[69, 32, 53, 32, 65, 32, 45, 50]⟩ ⟨#[32]⟩ = 3 by kernel_rfl, show Lib.splitB ⟨#[32]⟩ 0 3 ⟨#[69, 32, 53, 32, 65, 32, 45, 50]⟩ = [⟨#[69]⟩, ⟨#[53]⟩, ⟨#[65]⟩, ⟨#[45, 50]⟩] by kernel_rfl] at h
  exact h
theorem split_M (w : World) (G : Glob w) : Calls Tryz.prog 74 #[.string ⟨#[77, 32, 54]⟩, .string ⟨#[32]⟩] w fun e w' =>
    e = .returned (.slice (some ⟨w.heap.size, 0, none⟩) 2 2) ∧ w' = w.alloc (.cells #[.string ⟨#[77]⟩, .string ⟨#[54]⟩] 9) := by
  obtain ⟨m, hm⟩ := G.m
  have h := Tryz.strings_Split ⟨#[77, 32, 54]⟩ ⟨#[32]⟩ m w (by decide) hm (by decide)
  rw [show Lib.countB ⟨#[77, 32, 54]⟩ ⟨#[32]⟩ = 1 by kernel_rfl, show Lib.splitB ⟨#[32]⟩ 0 1 ⟨#[77, 32, 54]⟩ = [⟨#[77]⟩, ⟨#[54]⟩] by kernel_rfl] at h
  exact h

set_option maxRecDepth 100000 in
set_option maxHeartbeats 1600000 in
theorem item_E (w : World) (G : Glob w) : Calls Tryz.prog 36 #[.string ⟨#[69, 32, 53, 32, 65, 32, 45, 50]⟩] w fun e w' =>
    e = .returned (.tuple #[.agg #[.bool false, .int .i64 5, .int .u8 65, .int .i64 (-2)], .bool true]) ∧ Below w.heap.size w w' := by
  have B1 := (Below.refl w.heap.size w).alloc (Nat.le_refl _) (.cells #[.bool false, .int .i64 0, .int .u8 0, .int .i64 0] 56)
  have G1 := G.below B1
  go_enter Tryz.func36, Tryz.ntmps36
  go_wp2_with fail
  refine (split_E _ G1).mono ?_
  rintro e w1 ⟨rfl, rfl⟩
  have R := (Lb.new w #[.bool false, .int .i64 0, .int .u8 0, .int .i64 0] 56).alloc (.cells #[.string ⟨#[69]⟩, .string ⟨#[53]⟩, .string ⟨#[65]⟩, .string ⟨#[45, 50]⟩] 9)
  have S := Lb.new (w.alloc (.cells #[.bool false, .int .i64 0, .int .u8 0, .int .i64 0] 56)) #[.string ⟨#[69]⟩, .string ⟨#[53]⟩, .string ⟨#[65]⟩, .string ⟨#[45, 50]⟩] 9
  simp only [szal] at S
  have B2 := B1.alloc (by simp) (.cells #[.string ⟨#[69]⟩, .string ⟨#[53]⟩, .string ⟨#[65]⟩, .string ⟨#[45, 50]⟩] 9)
  have G2 := G.below B2
  generalize hW : (w.alloc (.cells #[.bool false, .int .i64 0, .int .u8 0, .int .i64 0] 56)).alloc (.cells #[.string ⟨#[69]⟩, .string ⟨#[53]⟩, .string ⟨#[65]⟩, .string ⟨#[45, 50]⟩] 9) = W at *
  clear hW
  have s0 := S.cell 0 _ rfl
  have s1 := S.cell 1 _ rfl
  have s2 := S.cell 2 _ rfl
  have s3 := S.cell 3 _ rfl
  go_wp2_with fail
  refine (number_is 5 ⟨#[53]⟩ (by kernel_rfl) (by kernel_rfl) (by decide) (by decide) (by decide) _ (by exact G2)).mono ?_
  rintro e w3 ⟨rfl, b3⟩
  have S3 := lb_below S b3 S.lt
  have R3 := lb_below R b3 R.lt
  have G3 := G2.below b3
  have q0 := S3.cell 0 _ rfl
  have q1 := S3.cell 1 _ rfl
  have q2 := S3.cell 2 _ rfl
  have q3 := S3.cell 3 _ rfl
  go_wp2_with fail
  refine (number_is (-2) ⟨#[45, 50]⟩ (by kernel_rfl) (by kernel_rfl) (by decide) (by decide) (by decide) _ (by exact G3)).mono ?_
  rintro e w4 ⟨rfl, b4⟩
  have S4 := lb_below S3 b4 S3.lt
  have R4 := lb_below R3 b4 R3.lt
  have p2 := S4.cell 2 _ rfl
  have r0 := R4.cell 0 _ rfl
  have r1 := R4.cell 1 _ rfl
  have r2 := R4.cell 2 _ rfl
  have r3 := R4.cell 3 _ rfl
  have rf := fun i => R4.frozen i
  have B4 := (B2.trans (b3.mono B2.size)).trans (b4.mono (Nat.le_trans B2.size b3.size))
  have hk : ((({ data := #[65] } : ByteArray)[0]'(by decide)).toNat : Int) = 65 := rfl
  go_wp2
  have Z := (((R4.set 0 (.bool false)).set 1 (.int .i64 5)).set 2 (.int .u8 65)).set 3 (.int .i64 (-2))
  have z0 := Z.cell 0 _ rfl
  have z1 := Z.cell 1 _ rfl
  have z2 := Z.cell 2 _ rfl
  have z3 := Z.cell 3 _ rfl
  refine bodyPost_ret (v := .tuple #[.agg #[.bool false, .int .i64 5, .int .u8 65, .int .i64 (-2)], .bool true]) (by simp only [results, Tryz.results36]; simp [go_sem, z0, z1, z2, z3]) rfl ?_
  exact ⟨rfl, (((B4.setCell (p := ⟨w.heap.size, 0, none⟩) (Nat.le_refl _) _).setCell (p := ⟨w.heap.size, 1, none⟩) (Nat.le_refl _) _).setCell (p := ⟨w.heap.size, 2, none⟩) (Nat.le_refl _) _).setCell (p := ⟨w.heap.size, 3, none⟩) (Nat.le_refl _) _⟩

set_option maxRecDepth 100000 in
set_option maxHeartbeats 1600000 in
theorem item_M (w : World) (G : Glob w) : Calls Tryz.prog 36 #[.string ⟨#[77, 32, 54]⟩] w fun e w' =>
    e = .returned (.tuple #[.agg #[.bool true, .int .i64 6, .int .u8 0, .int .i64 0], .bool true]) ∧ Below w.heap.size w w' := by
  have B1 := (Below.refl w.heap.size w).alloc (Nat.le_refl _) (.cells #[.bool false, .int .i64 0, .int .u8 0, .int .i64 0] 56)
  have G1 := G.below B1
  go_enter Tryz.func36, Tryz.ntmps36
  go_wp2_with fail
  refine (split_M _ G1).mono ?_
  rintro e w1 ⟨rfl, rfl⟩
  have R := (Lb.new w #[.bool false, .int .i64 0, .int .u8 0, .int .i64 0] 56).alloc (.cells #[.string ⟨#[77]⟩, .string ⟨#[54]⟩] 9)
  have S := Lb.new (w.alloc (.cells #[.bool false, .int .i64 0, .int .u8 0, .int .i64 0] 56)) #[.string ⟨#[77]⟩, .string ⟨#[54]⟩] 9
  simp only [szal] at S
  have B2 := B1.alloc (by simp) (.cells #[.string ⟨#[77]⟩, .string ⟨#[54]⟩] 9)
  have G2 := G.below B2
  generalize hW : (w.alloc (.cells #[.bool false, .int .i64 0, .int .u8 0, .int .i64 0] 56)).alloc (.cells #[.string ⟨#[77]⟩, .string ⟨#[54]⟩] 9) = W at *
  clear hW
  have s0 := S.cell 0 _ rfl
  have s1 := S.cell 1 _ rfl
  have r0 := R.cell 0 _ rfl
  have rf := fun i => R.frozen i
  have R2 := R.set 0 (.bool true)
  have B3 := B2.setCell (p := ⟨w.heap.size, 0, none⟩) (Nat.le_refl _) (.bool true)
  have G3 := G.below B3
  go_wp2_with fail
  refine (number_is 6 ⟨#[54]⟩ (by kernel_rfl) (by kernel_rfl) (by decide) (by decide) (by decide) _ (by exact G3)).mono ?_
  rintro e w3 ⟨rfl, b3⟩
  have R3 := lb_below R2 b3 R2.lt
  have e0 := R3.cell 0 _ rfl
  have e1 := R3.cell 1 _ rfl
  have e2 := R3.cell 2 _ rfl
  have e3 := R3.cell 3 _ rfl
  have ef := fun i => R3.frozen i
  have R4 := R3.set 1 (.int .i64 6)
  have f0 := R4.cell 0 _ rfl
  have f1 := R4.cell 1 _ rfl
  have f2 := R4.cell 2 _ rfl
  have f3 := R4.cell 3 _ rfl
  have ff := fun i => R4.frozen i
  have B4 := (B3.trans (b3.mono B3.size)).setCell (p := ⟨w.heap.size, 1, none⟩) (Nat.le_refl _) (.int .i64 6)
  go_wp2
  have Z := (((R4.set 0 (.bool true)).set 1 (.int .i64 6)).set 2 (.int .u8 0)).set 3 (.int .i64 0)
  have z0 := Z.cell 0 _ rfl
  have z1 := Z.cell 1 _ rfl
  have z2 := Z.cell 2 _ rfl
  have z3 := Z.cell 3 _ rfl
  refine bodyPost_ret (v := .tuple #[.agg #[.bool true, .int .i64 6, .int .u8 0, .int .i64 0], .bool true]) (by simp only [results, Tryz.results36]; simp [go_sem, z0, z1, z2, z3]) rfl ?_
  exact ⟨rfl, (((B4.setCell (p := ⟨w.heap.size, 0, none⟩) (Nat.le_refl _) _).setCell (p := ⟨w.heap.size, 1, none⟩) (Nat.le_refl _) _).setCell (p := ⟨w.heap.size, 2, none⟩) (Nat.le_refl _) _).setCell (p := ⟨w.heap.size, 3, none⟩) (Nat.le_refl _) _⟩
end Go.Proofs.YthbiiccblcoogaaGreatDoor
