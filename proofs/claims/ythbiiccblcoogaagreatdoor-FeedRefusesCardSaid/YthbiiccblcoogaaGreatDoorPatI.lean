/- The program's reader of patterns: step. (Printed by wip/tools/genstep.py.) -/
import Derived.Test.YthbiiccblcoogaaGreatDoorPatH
set_option linter.unusedVariables false
set_option linter.unusedSimpArgs false
namespace Go.Proofs.YthbiiccblcoogaaGreatDoor
open Go.RowKit

set_option maxHeartbeats 1000000 in
theorem step_many_not (b n : Nat) (s : ByteArray) (ahead : Int) (w : World) (h : Rd w b s n) (hz : s.size ≤ 4096) (hn : n ≤ s.size) (ha : (ahead == 8) = true) (h1 : Pat.isB s.data.toList 33 33 n = true) :
    Calls Tryz.prog 252 #[.pointer (some ⟨b, 0, none⟩), .int .i64 ahead] w fun e w' => Fault e ∧ Oth b w w' := by
  have hat : ∀ o, (w.alloc o).cell? ⟨b, 1, none⟩ = some (.int .i64 n) := fun o => (h.alloc o).ha
  have hbb := h.hb
  have H1 := Lib.hid h1
  clear h1
  go_enter Tryz.func252, Tryz.ntmps252
  go_wp2_with fail
  refine (has_is b n (n + 1) s 33 33 true _ (by exact h.alloc _) hz hn rfl H1.out rfl).mono ?_
  rintro e w1 ⟨rfl, hrd1, ho1⟩
  have L1 := (Lb.new w _ 342).oth ho1 (by omega)
  have O1 := ((Oth.refl b w).alloc _).trans ho1
  go_wp2_with (go_at_call 170; refine (fail_any _ _ _ _).mono ?_; rintro e w2 ⟨rfl, rfl⟩)
  exact ⟨rfl, ⟨_, _, rfl, by simp [Bad]⟩, O1⟩

set_option maxHeartbeats 1000000 in
theorem step_many_bad (b n : Nat) (s : ByteArray) (ahead : Int) (w : World) (h : Rd w b s n) (hz : s.size ≤ 4096) (hn : n ≤ s.size) (ha : (ahead == 8) = true) (h1 : Pat.isB s.data.toList 33 33 n = false) (h2 : Pat.one s.data.toList 65 90 n = none) :
    Calls Tryz.prog 252 #[.pointer (some ⟨b, 0, none⟩), .int .i64 ahead] w fun e w' => Fault e ∧ Oth b w w' := by
  have hat : ∀ o, (w.alloc o).cell? ⟨b, 1, none⟩ = some (.int .i64 n) := fun o => (h.alloc o).ha
  have hbb := h.hb
  have H1 := Lib.hid h1
  have H2 := Lib.hid h2
  clear h1 h2
  go_enter Tryz.func252, Tryz.ntmps252
  go_wp2_with fail
  refine (has_is b n n s 33 33 false _ (by exact h.alloc _) hz hn rfl H1.out rfl).mono ?_
  rintro e w1 ⟨rfl, hrd1, ho1⟩
  have L1 := (Lb.new w _ 342).oth ho1 (by omega)
  have O1 := ((Oth.refl b w).alloc _).trans ho1
  go_wp2_with fail
  refine (one_none b n s 65 90 65 90 _ (by exact hrd1) hz hn rfl rfl H2.out).mono ?_
  rintro e w2 ⟨⟨a, c, rfl, hb⟩, ho2⟩
  exact ⟨rfl, ⟨_, _, rfl, hb⟩, O1.trans ho2⟩

set_option maxHeartbeats 1000000 in
theorem step_many (b n q1 : Nat) (s : ByteArray) (c : UInt8) (ahead : Int) (w : World) (h : Rd w b s n) (hz : s.size ≤ 4096) (hn : n ≤ s.size) (ha : (ahead == 8) = true) (h1 : Pat.isB s.data.toList 33 33 n = false) (h2 : Pat.one s.data.toList 65 90 n = some (c, q1)) :
    Calls Tryz.prog 252 #[.pointer (some ⟨b, 0, none⟩), .int .i64 ahead] w fun e w' => Fault e ∧ Oth b w w' := by
  have hat : ∀ o, (w.alloc o).cell? ⟨b, 1, none⟩ = some (.int .i64 n) := fun o => (h.alloc o).ha
  have hbb := h.hb
  have H1 := Lib.hid h1
  have H2 := Lib.hid h2
  clear h1 h2
  go_enter Tryz.func252, Tryz.ntmps252
  go_wp2_with fail
  refine (has_is b n n s 33 33 false _ (by exact h.alloc _) hz hn rfl H1.out rfl).mono ?_
  rintro e w1 ⟨rfl, hrd1, ho1⟩
  have L1 := (Lb.new w _ 342).oth ho1 (by omega)
  have O1 := ((Oth.refl b w).alloc _).trans ho1
  go_wp2_with fail
  refine (one_some b n q1 s 65 90 c.toNat 65 90 c _ (by exact hrd1) hz hn rfl rfl H2.out rfl).mono ?_
  rintro e w2 ⟨rfl, hrd2, ho2⟩
  go_wp2_with (go_at_call 170; refine (fail_any _ _ _ _).mono ?_; rintro e w3 ⟨rfl, rfl⟩)
  exact ⟨rfl, ⟨_, _, rfl, by simp [Bad]⟩, O1.trans ho2⟩

set_option maxHeartbeats 1000000 in
theorem step_kind_bad_not (b n : Nat) (s : ByteArray) (ahead : Int) (w : World) (h : Rd w b s n) (hz : s.size ≤ 4096) (hn : n ≤ s.size) (ha : (ahead == 8) = false) (h1 : Pat.isB s.data.toList 33 33 n = true) (h2 : Pat.one s.data.toList 65 90 (n + 1) = none) :
    Calls Tryz.prog 252 #[.pointer (some ⟨b, 0, none⟩), .int .i64 ahead] w fun e w' => Fault e ∧ Oth b w w' := by
  have hs0 := isB_le h1
  have hat : ∀ o, (w.alloc o).cell? ⟨b, 1, none⟩ = some (.int .i64 n) := fun o => (h.alloc o).ha
  have hbb := h.hb
  have H1 := Lib.hid h1
  have H2 := Lib.hid h2
  clear h1 h2
  go_enter Tryz.func252, Tryz.ntmps252
  go_wp2_with fail
  refine (has_is b n (n + 1) s 33 33 true _ (by exact h.alloc _) hz hn rfl H1.out rfl).mono ?_
  rintro e w1 ⟨rfl, hrd1, ho1⟩
  have L1 := (Lb.new w _ 342).oth ho1 (by omega)
  have O1 := ((Oth.refl b w).alloc _).trans ho1
  have M1 := Lb.new w1 #[.int .u8 0, .int .u8 0, .bool true, .int .i64 1, .int .i64 1] 342
  have hb1 := hrd1.hb
  have z1 := L1.lt
  have hne : ¬ w1.heap.size = w.heap.size := by omega
  have hne1 : ¬ w.heap.size = w1.heap.size := by omega
  go_wp2_with fail
  refine (one_none b ((n + 1)) s 65 90 65 90 _ (by exact (hrd1.alloc _)) hz hs0 rfl rfl H2.out).mono ?_
  rintro e w2 ⟨⟨a, c, rfl, hb⟩, ho2⟩
  exact ⟨rfl, ⟨_, _, rfl, hb⟩, (O1.alloc _).trans ho2⟩

set_option maxHeartbeats 1000000 in
theorem step_blank_bad_not (b n q1 : Nat) (s : ByteArray) (c : UInt8) (ahead : Int) (w : World) (h : Rd w b s n) (hz : s.size ≤ 4096) (hn : n ≤ s.size) (ha : (ahead == 8) = false) (h1 : Pat.isB s.data.toList 33 33 n = true) (h2 : Pat.one s.data.toList 65 90 (n + 1) = some (c, q1)) (h3 : Pat.word s.data.toList (ByteArray.mk #[32]).data.toList q1 = none) :
    Calls Tryz.prog 252 #[.pointer (some ⟨b, 0, none⟩), .int .i64 ahead] w fun e w' => Fault e ∧ Oth b w w' := by
  have hs0 := isB_le h1
  have hs1 := one_sz h2
  have hat : ∀ o, (w.alloc o).cell? ⟨b, 1, none⟩ = some (.int .i64 n) := fun o => (h.alloc o).ha
  have hbb := h.hb
  have H1 := Lib.hid h1
  have H2 := Lib.hid h2
  have H3 := Lib.hid h3
  clear h1 h2 h3
  go_enter Tryz.func252, Tryz.ntmps252
  go_wp2_with fail
  refine (has_is b n (n + 1) s 33 33 true _ (by exact h.alloc _) hz hn rfl H1.out rfl).mono ?_
  rintro e w1 ⟨rfl, hrd1, ho1⟩
  have L1 := (Lb.new w _ 342).oth ho1 (by omega)
  have O1 := ((Oth.refl b w).alloc _).trans ho1
  have M1 := Lb.new w1 #[.int .u8 0, .int .u8 0, .bool true, .int .i64 1, .int .i64 1] 342
  have hb1 := hrd1.hb
  have z1 := L1.lt
  have hne : ¬ w1.heap.size = w.heap.size := by omega
  have hne1 : ¬ w.heap.size = w1.heap.size := by omega
  go_wp2_with fail
  refine (one_some b ((n + 1)) q1 s 65 90 c.toNat 65 90 c _ (by exact (hrd1.alloc _)) hz hs0 rfl rfl H2.out rfl).mono ?_
  rintro e w2 ⟨rfl, hrd2, ho2⟩
  have L2 := (L1.alloc (.cells #[.int .u8 0, .int .u8 0, .bool true, .int .i64 1, .int .i64 1] 342)).oth ho2 (by omega)
  have M2 := M1.oth ho2 (by omega)
  have O2 := (O1.alloc _).trans ho2
  have hb2 := hrd2.hb
  have hat2 := hrd2.ha
  clear hat
  clear ho2
  have c2_0 := M2.cell 0 _ rfl
  have c2_1 := M2.cell 1 _ rfl
  have c2_2 := M2.cell 2 _ rfl
  have c2_3 := M2.cell 3 _ rfl
  have c2_4 := M2.cell 4 _ rfl
  have f2 := fun i => M2.frozen i
  go_wp2_with fail
  refine (word_none b (q1) s _ _ (by exact (hrd2.other _ _ (by simp; omega))) hz (by decide) hs1 H3.out).mono ?_
  rintro e w3 ⟨⟨a, c, rfl, hb⟩, ho3⟩
  exact ⟨rfl, ⟨_, _, rfl, hb⟩, (O2.new (by omega) _).trans ho3⟩

set_option maxHeartbeats 1000000 in
theorem step_name_bad_not (b n q1 q2 : Nat) (s : ByteArray) (c : UInt8) (ahead : Int) (w : World) (h : Rd w b s n) (hz : s.size ≤ 4096) (hn : n ≤ s.size) (ha : (ahead == 8) = false) (h1 : Pat.isB s.data.toList 33 33 n = true) (h2 : Pat.one s.data.toList 65 90 (n + 1) = some (c, q1)) (h3 : Pat.word s.data.toList (ByteArray.mk #[32]).data.toList q1 = some q2) (h4 : Pat.one s.data.toList 97 122 q2 = none) :
    Calls Tryz.prog 252 #[.pointer (some ⟨b, 0, none⟩), .int .i64 ahead] w fun e w' => Fault e ∧ Oth b w w' := by
  have hs0 := isB_le h1
  have hs1 := one_sz h2
  have hs2 := word_sz hs1 h3
  have hat : ∀ o, (w.alloc o).cell? ⟨b, 1, none⟩ = some (.int .i64 n) := fun o => (h.alloc o).ha
  have hbb := h.hb
  have H1 := Lib.hid h1
  have H2 := Lib.hid h2
  have H3 := Lib.hid h3
  have H4 := Lib.hid h4
  clear h1 h2 h3 h4
  go_enter Tryz.func252, Tryz.ntmps252
  go_wp2_with fail
  refine (has_is b n (n + 1) s 33 33 true _ (by exact h.alloc _) hz hn rfl H1.out rfl).mono ?_
  rintro e w1 ⟨rfl, hrd1, ho1⟩
  have L1 := (Lb.new w _ 342).oth ho1 (by omega)
  have O1 := ((Oth.refl b w).alloc _).trans ho1
  have M1 := Lb.new w1 #[.int .u8 0, .int .u8 0, .bool true, .int .i64 1, .int .i64 1] 342
  have hb1 := hrd1.hb
  have z1 := L1.lt
  have hne : ¬ w1.heap.size = w.heap.size := by omega
  have hne1 : ¬ w.heap.size = w1.heap.size := by omega
  go_wp2_with fail
  refine (one_some b ((n + 1)) q1 s 65 90 c.toNat 65 90 c _ (by exact (hrd1.alloc _)) hz hs0 rfl rfl H2.out rfl).mono ?_
  rintro e w2 ⟨rfl, hrd2, ho2⟩
  have L2 := (L1.alloc (.cells #[.int .u8 0, .int .u8 0, .bool true, .int .i64 1, .int .i64 1] 342)).oth ho2 (by omega)
  have M2 := M1.oth ho2 (by omega)
  have O2 := (O1.alloc _).trans ho2
  have hb2 := hrd2.hb
  have hat2 := hrd2.ha
  clear hat
  clear ho2
  have c2_0 := M2.cell 0 _ rfl
  have c2_1 := M2.cell 1 _ rfl
  have c2_2 := M2.cell 2 _ rfl
  have c2_3 := M2.cell 3 _ rfl
  have c2_4 := M2.cell 4 _ rfl
  have f2 := fun i => M2.frozen i
  go_wp2_with fail
  refine (word_some b (q1) q2 s _ _ (by exact (hrd2.other _ _ (by simp; omega))) hz (by decide) hs1 H3.out).mono ?_
  rintro e w3 ⟨rfl, hrd3, ho3⟩
  have L3 := (L2.other ⟨w1.heap.size, 0, none⟩ (.int .u8 c.toNat) hne1).oth ho3 (by omega)
  have M3 := (M2.set 0 (.int .u8 c.toNat)).oth ho3 (by omega)
  have O3 := (O2.new (by omega) _).trans ho3
  have hb3 := hrd3.hb
  have hat3 := hrd3.ha
  clear hat2
  clear ho3
  have c3_0 := M3.cell 0 _ rfl
  have c3_1 := M3.cell 1 _ rfl
  have c3_2 := M3.cell 2 _ rfl
  have c3_3 := M3.cell 3 _ rfl
  have c3_4 := M3.cell 4 _ rfl
  have f3 := fun i => M3.frozen i
  go_wp2_with fail
  refine (one_none b (q2) s 97 122 97 122 _ (by exact hrd3) hz hs2 rfl rfl H4.out).mono ?_
  rintro e w4 ⟨⟨a, c, rfl, hb⟩, ho4⟩
  exact ⟨rfl, ⟨_, _, rfl, hb⟩, O3.trans ho4⟩

set_option maxHeartbeats 1000000 in
theorem step_bare_not (b n q1 q2 q3 : Nat) (s : ByteArray) (c d : UInt8) (ahead : Int) (w : World) (h : Rd w b s n) (hz : s.size ≤ 4096) (hn : n ≤ s.size) (ha : (ahead == 8) = false) (h1 : Pat.isB s.data.toList 33 33 n = true) (h2 : Pat.one s.data.toList 65 90 (n + 1) = some (c, q1)) (h3 : Pat.word s.data.toList (ByteArray.mk #[32]).data.toList q1 = some q2) (h4 : Pat.one s.data.toList 97 122 q2 = some (d, q3)) (h5 : Pat.isB s.data.toList 123 123 q3 = false) :
    Calls Tryz.prog 252 #[.pointer (some ⟨b, 0, none⟩), .int .i64 ahead] w fun e w' => e = .returned (encS ⟨c, d, true, 1, 1⟩) ∧ Rd w' b s q3 ∧ Oth b w w' := by
  have hs0 := isB_le h1
  have hs1 := one_sz h2
  have hs2 := word_sz hs1 h3
  have hs3 := one_sz h4
  have hat : ∀ o, (w.alloc o).cell? ⟨b, 1, none⟩ = some (.int .i64 n) := fun o => (h.alloc o).ha
  have hbb := h.hb
  have H1 := Lib.hid h1
  have H2 := Lib.hid h2
  have H3 := Lib.hid h3
  have H4 := Lib.hid h4
  have H5 := Lib.hid h5
  clear h1 h2 h3 h4 h5
  go_enter Tryz.func252, Tryz.ntmps252
  go_wp2_with fail
  refine (has_is b n (n + 1) s 33 33 true _ (by exact h.alloc _) hz hn rfl H1.out rfl).mono ?_
  rintro e w1 ⟨rfl, hrd1, ho1⟩
  have L1 := (Lb.new w _ 342).oth ho1 (by omega)
  have O1 := ((Oth.refl b w).alloc _).trans ho1
  have M1 := Lb.new w1 #[.int .u8 0, .int .u8 0, .bool true, .int .i64 1, .int .i64 1] 342
  have hb1 := hrd1.hb
  have z1 := L1.lt
  have hne : ¬ w1.heap.size = w.heap.size := by omega
  have hne1 : ¬ w.heap.size = w1.heap.size := by omega
  go_wp2_with fail
  refine (one_some b ((n + 1)) q1 s 65 90 c.toNat 65 90 c _ (by exact (hrd1.alloc _)) hz hs0 rfl rfl H2.out rfl).mono ?_
  rintro e w2 ⟨rfl, hrd2, ho2⟩
  have L2 := (L1.alloc (.cells #[.int .u8 0, .int .u8 0, .bool true, .int .i64 1, .int .i64 1] 342)).oth ho2 (by omega)
  have M2 := M1.oth ho2 (by omega)
  have O2 := (O1.alloc _).trans ho2
  have hb2 := hrd2.hb
  have hat2 := hrd2.ha
  clear hat
  clear ho2
  have c2_0 := M2.cell 0 _ rfl
  have c2_1 := M2.cell 1 _ rfl
  have c2_2 := M2.cell 2 _ rfl
  have c2_3 := M2.cell 3 _ rfl
  have c2_4 := M2.cell 4 _ rfl
  have f2 := fun i => M2.frozen i
  go_wp2_with fail
  refine (word_some b (q1) q2 s _ _ (by exact (hrd2.other _ _ (by simp; omega))) hz (by decide) hs1 H3.out).mono ?_
  rintro e w3 ⟨rfl, hrd3, ho3⟩
  have L3 := (L2.other ⟨w1.heap.size, 0, none⟩ (.int .u8 c.toNat) hne1).oth ho3 (by omega)
  have M3 := (M2.set 0 (.int .u8 c.toNat)).oth ho3 (by omega)
  have O3 := (O2.new (by omega) _).trans ho3
  have hb3 := hrd3.hb
  have hat3 := hrd3.ha
  clear hat2
  clear ho3
  have c3_0 := M3.cell 0 _ rfl
  have c3_1 := M3.cell 1 _ rfl
  have c3_2 := M3.cell 2 _ rfl
  have c3_3 := M3.cell 3 _ rfl
  have c3_4 := M3.cell 4 _ rfl
  have f3 := fun i => M3.frozen i
  go_wp2_with fail
  refine (one_some b (q2) q3 s 97 122 d.toNat 97 122 d _ (by exact hrd3) hz hs2 rfl rfl H4.out rfl).mono ?_
  rintro e w4 ⟨rfl, hrd4, ho4⟩
  have L4 := L3.oth ho4 (by omega)
  have M4 := M3.oth ho4 (by omega)
  have O4 := O3.trans ho4
  have hb4 := hrd4.hb
  have hat4 := hrd4.ha
  clear hat3
  clear ho4
  have c4_0 := M4.cell 0 _ rfl
  have c4_1 := M4.cell 1 _ rfl
  have c4_2 := M4.cell 2 _ rfl
  have c4_3 := M4.cell 3 _ rfl
  have c4_4 := M4.cell 4 _ rfl
  have f4 := fun i => M4.frozen i
  have haz := (hrd4.other ⟨w1.heap.size, 1, none⟩ (.int .u8 d.toNat) (by simp; omega)).ha
  go_wp2_with fail
  refine (has_is b q3 q3 s 123 123 false _ (by exact (hrd4.other _ _ (by simp; omega))) hz hs3 rfl H5.out rfl).mono ?_
  rintro e w5 ⟨rfl, hrd5, ho5⟩
  have L5 := (L4.other ⟨w1.heap.size, 1, none⟩ (.int .u8 d.toNat) hne1).oth ho5 (by omega)
  have M5 := (M4.set 1 (.int .u8 d.toNat)).oth ho5 (by omega)
  have O5 := (O4.new (by omega) _).trans ho5
  have hb5 := hrd5.hb
  have hat5 := hrd5.ha
  clear hat4
  clear ho5
  have c5_0 := M5.cell 0 _ rfl
  have c5_1 := M5.cell 1 _ rfl
  have c5_2 := M5.cell 2 _ rfl
  have c5_3 := M5.cell 3 _ rfl
  have c5_4 := M5.cell 4 _ rfl
  have f5 := fun i => M5.frozen i
  have d5_0 := L5.cell 0 _ rfl
  have d5_1 := L5.cell 1 _ rfl
  have d5_2 := L5.cell 2 _ rfl
  have d5_3 := L5.cell 3 _ rfl
  have d5_4 := L5.cell 4 _ rfl
  have g5 := fun i => L5.frozen i
  go_wp2
  have LF := (((((L5.set 0 (.int .u8 c.toNat)).set 1 (.int .u8 d.toNat)).set 2 (.bool true)).set 3 (.int .i64 1)).set 4 (.int .i64 1))
  have e0 := LF.cell 0 _ rfl
  have e1 := LF.cell 1 _ rfl
  have e2 := LF.cell 2 _ rfl
  have e3 := LF.cell 3 _ rfl
  have e4 := LF.cell 4 _ rfl
  refine bodyPost_ret (v := encS ⟨c, d, true, 1, 1⟩) (by simp only [results, Tryz.results252]; simp [go_sem, e0, e1, e2, e3, e4, encS]) rfl ⟨rfl, ?_, ?_⟩
  · exact (((((hrd5.other _ _ (by simp; omega)).other _ _ (by simp; omega)).other _ _ (by simp; omega)).other _ _ (by simp; omega)).other _ _ (by simp; omega))
  · exact (((((O5.new (by omega) _).new (by omega) _).new (by omega) _).new (by omega) _).new (by omega) _)

set_option maxHeartbeats 1000000 in
theorem step_not_bounds (b n q1 q2 q3 : Nat) (s : ByteArray) (c d : UInt8) (ahead : Int) (w : World) (h : Rd w b s n) (hz : s.size ≤ 4096) (hn : n ≤ s.size) (ha : (ahead == 8) = false) (h1 : Pat.isB s.data.toList 33 33 n = true) (h2 : Pat.one s.data.toList 65 90 (n + 1) = some (c, q1)) (h3 : Pat.word s.data.toList (ByteArray.mk #[32]).data.toList q1 = some q2) (h4 : Pat.one s.data.toList 97 122 q2 = some (d, q3)) (h5 : Pat.isB s.data.toList 123 123 q3 = true) :
    Calls Tryz.prog 252 #[.pointer (some ⟨b, 0, none⟩), .int .i64 ahead] w fun e w' => Fault e ∧ Oth b w w' := by
  have hs0 := isB_le h1
  have hs1 := one_sz h2
  have hs2 := word_sz hs1 h3
  have hs3 := one_sz h4
  have hs4 := isB_le h5
  have hat : ∀ o, (w.alloc o).cell? ⟨b, 1, none⟩ = some (.int .i64 n) := fun o => (h.alloc o).ha
  have hbb := h.hb
  have H1 := Lib.hid h1
  have H2 := Lib.hid h2
  have H3 := Lib.hid h3
  have H4 := Lib.hid h4
  have H5 := Lib.hid h5
  clear h1 h2 h3 h4 h5
  go_enter Tryz.func252, Tryz.ntmps252
  go_wp2_with fail
  refine (has_is b n (n + 1) s 33 33 true _ (by exact h.alloc _) hz hn rfl H1.out rfl).mono ?_
  rintro e w1 ⟨rfl, hrd1, ho1⟩
  have L1 := (Lb.new w _ 342).oth ho1 (by omega)
  have O1 := ((Oth.refl b w).alloc _).trans ho1
  have M1 := Lb.new w1 #[.int .u8 0, .int .u8 0, .bool true, .int .i64 1, .int .i64 1] 342
  have hb1 := hrd1.hb
  have z1 := L1.lt
  have hne : ¬ w1.heap.size = w.heap.size := by omega
  have hne1 : ¬ w.heap.size = w1.heap.size := by omega
  go_wp2_with fail
  refine (one_some b ((n + 1)) q1 s 65 90 c.toNat 65 90 c _ (by exact (hrd1.alloc _)) hz hs0 rfl rfl H2.out rfl).mono ?_
  rintro e w2 ⟨rfl, hrd2, ho2⟩
  have L2 := (L1.alloc (.cells #[.int .u8 0, .int .u8 0, .bool true, .int .i64 1, .int .i64 1] 342)).oth ho2 (by omega)
  have M2 := M1.oth ho2 (by omega)
  have O2 := (O1.alloc _).trans ho2
  have hb2 := hrd2.hb
  have hat2 := hrd2.ha
  clear hat
  clear ho2
  have c2_0 := M2.cell 0 _ rfl
  have c2_1 := M2.cell 1 _ rfl
  have c2_2 := M2.cell 2 _ rfl
  have c2_3 := M2.cell 3 _ rfl
  have c2_4 := M2.cell 4 _ rfl
  have f2 := fun i => M2.frozen i
  go_wp2_with fail
  refine (word_some b (q1) q2 s _ _ (by exact (hrd2.other _ _ (by simp; omega))) hz (by decide) hs1 H3.out).mono ?_
  rintro e w3 ⟨rfl, hrd3, ho3⟩
  have L3 := (L2.other ⟨w1.heap.size, 0, none⟩ (.int .u8 c.toNat) hne1).oth ho3 (by omega)
  have M3 := (M2.set 0 (.int .u8 c.toNat)).oth ho3 (by omega)
  have O3 := (O2.new (by omega) _).trans ho3
  have hb3 := hrd3.hb
  have hat3 := hrd3.ha
  clear hat2
  clear ho3
  have c3_0 := M3.cell 0 _ rfl
  have c3_1 := M3.cell 1 _ rfl
  have c3_2 := M3.cell 2 _ rfl
  have c3_3 := M3.cell 3 _ rfl
  have c3_4 := M3.cell 4 _ rfl
  have f3 := fun i => M3.frozen i
  go_wp2_with fail
  refine (one_some b (q2) q3 s 97 122 d.toNat 97 122 d _ (by exact hrd3) hz hs2 rfl rfl H4.out rfl).mono ?_
  rintro e w4 ⟨rfl, hrd4, ho4⟩
  have L4 := L3.oth ho4 (by omega)
  have M4 := M3.oth ho4 (by omega)
  have O4 := O3.trans ho4
  have hb4 := hrd4.hb
  have hat4 := hrd4.ha
  clear hat3
  clear ho4
  have c4_0 := M4.cell 0 _ rfl
  have c4_1 := M4.cell 1 _ rfl
  have c4_2 := M4.cell 2 _ rfl
  have c4_3 := M4.cell 3 _ rfl
  have c4_4 := M4.cell 4 _ rfl
  have f4 := fun i => M4.frozen i
  have haz := (hrd4.other ⟨w1.heap.size, 1, none⟩ (.int .u8 d.toNat) (by simp; omega)).ha
  go_wp2_with fail
  refine (has_is b q3 (q3 + 1) s 123 123 true _ (by exact (hrd4.other _ _ (by simp; omega))) hz hs3 rfl H5.out rfl).mono ?_
  rintro e w5 ⟨rfl, hrd5, ho5⟩
  have L5 := (L4.other ⟨w1.heap.size, 1, none⟩ (.int .u8 d.toNat) hne1).oth ho5 (by omega)
  have M5 := (M4.set 1 (.int .u8 d.toNat)).oth ho5 (by omega)
  have O5 := (O4.new (by omega) _).trans ho5
  have hb5 := hrd5.hb
  have hat5 := hrd5.ha
  clear hat4
  clear ho5
  have c5_0 := M5.cell 0 _ rfl
  have c5_1 := M5.cell 1 _ rfl
  have c5_2 := M5.cell 2 _ rfl
  have c5_3 := M5.cell 3 _ rfl
  have c5_4 := M5.cell 4 _ rfl
  have f5 := fun i => M5.frozen i
  go_wp2_with (go_at_call 170; refine (fail_any _ _ _ _).mono ?_; rintro e wf ⟨rfl, rfl⟩)
  exact ⟨rfl, ⟨_, _, rfl, by simp [Bad]⟩, O5⟩

set_option maxHeartbeats 1000000 in
theorem step_kind_bad_pos (b n : Nat) (s : ByteArray) (ahead : Int) (w : World) (h : Rd w b s n) (hz : s.size ≤ 4096) (hn : n ≤ s.size) (ha : (ahead == 8) = false) (h1 : Pat.isB s.data.toList 33 33 n = false) (h2 : Pat.one s.data.toList 65 90 n = none) :
    Calls Tryz.prog 252 #[.pointer (some ⟨b, 0, none⟩), .int .i64 ahead] w fun e w' => Fault e ∧ Oth b w w' := by
  have hs0 := hn
  have hat : ∀ o, (w.alloc o).cell? ⟨b, 1, none⟩ = some (.int .i64 n) := fun o => (h.alloc o).ha
  have hbb := h.hb
  have H1 := Lib.hid h1
  have H2 := Lib.hid h2
  clear h1 h2
  go_enter Tryz.func252, Tryz.ntmps252
  go_wp2_with fail
  refine (has_is b n n s 33 33 false _ (by exact h.alloc _) hz hn rfl H1.out rfl).mono ?_
  rintro e w1 ⟨rfl, hrd1, ho1⟩
  have L1 := (Lb.new w _ 342).oth ho1 (by omega)
  have O1 := ((Oth.refl b w).alloc _).trans ho1
  have M1 := Lb.new w1 #[.int .u8 0, .int .u8 0, .bool false, .int .i64 1, .int .i64 1] 342
  have hb1 := hrd1.hb
  have z1 := L1.lt
  have hne : ¬ w1.heap.size = w.heap.size := by omega
  have hne1 : ¬ w.heap.size = w1.heap.size := by omega
  go_wp2_with fail
  refine (one_none b (n) s 65 90 65 90 _ (by exact (hrd1.alloc _)) hz hs0 rfl rfl H2.out).mono ?_
  rintro e w2 ⟨⟨a, c, rfl, hb⟩, ho2⟩
  exact ⟨rfl, ⟨_, _, rfl, hb⟩, (O1.alloc _).trans ho2⟩

set_option maxHeartbeats 1000000 in
theorem step_blank_bad_pos (b n q1 : Nat) (s : ByteArray) (c : UInt8) (ahead : Int) (w : World) (h : Rd w b s n) (hz : s.size ≤ 4096) (hn : n ≤ s.size) (ha : (ahead == 8) = false) (h1 : Pat.isB s.data.toList 33 33 n = false) (h2 : Pat.one s.data.toList 65 90 n = some (c, q1)) (h3 : Pat.word s.data.toList (ByteArray.mk #[32]).data.toList q1 = none) :
    Calls Tryz.prog 252 #[.pointer (some ⟨b, 0, none⟩), .int .i64 ahead] w fun e w' => Fault e ∧ Oth b w w' := by
  have hs0 := hn
  have hs1 := one_sz h2
  have hat : ∀ o, (w.alloc o).cell? ⟨b, 1, none⟩ = some (.int .i64 n) := fun o => (h.alloc o).ha
  have hbb := h.hb
  have H1 := Lib.hid h1
  have H2 := Lib.hid h2
  have H3 := Lib.hid h3
  clear h1 h2 h3
  go_enter Tryz.func252, Tryz.ntmps252
  go_wp2_with fail
  refine (has_is b n n s 33 33 false _ (by exact h.alloc _) hz hn rfl H1.out rfl).mono ?_
  rintro e w1 ⟨rfl, hrd1, ho1⟩
  have L1 := (Lb.new w _ 342).oth ho1 (by omega)
  have O1 := ((Oth.refl b w).alloc _).trans ho1
  have M1 := Lb.new w1 #[.int .u8 0, .int .u8 0, .bool false, .int .i64 1, .int .i64 1] 342
  have hb1 := hrd1.hb
  have z1 := L1.lt
  have hne : ¬ w1.heap.size = w.heap.size := by omega
  have hne1 : ¬ w.heap.size = w1.heap.size := by omega
  go_wp2_with fail
  refine (one_some b (n) q1 s 65 90 c.toNat 65 90 c _ (by exact (hrd1.alloc _)) hz hs0 rfl rfl H2.out rfl).mono ?_
  rintro e w2 ⟨rfl, hrd2, ho2⟩
  have L2 := (L1.alloc (.cells #[.int .u8 0, .int .u8 0, .bool false, .int .i64 1, .int .i64 1] 342)).oth ho2 (by omega)
  have M2 := M1.oth ho2 (by omega)
  have O2 := (O1.alloc _).trans ho2
  have hb2 := hrd2.hb
  have hat2 := hrd2.ha
  clear hat
  clear ho2
  have c2_0 := M2.cell 0 _ rfl
  have c2_1 := M2.cell 1 _ rfl
  have c2_2 := M2.cell 2 _ rfl
  have c2_3 := M2.cell 3 _ rfl
  have c2_4 := M2.cell 4 _ rfl
  have f2 := fun i => M2.frozen i
  go_wp2_with fail
  refine (word_none b (q1) s _ _ (by exact (hrd2.other _ _ (by simp; omega))) hz (by decide) hs1 H3.out).mono ?_
  rintro e w3 ⟨⟨a, c, rfl, hb⟩, ho3⟩
  exact ⟨rfl, ⟨_, _, rfl, hb⟩, (O2.new (by omega) _).trans ho3⟩

set_option maxHeartbeats 1000000 in
theorem step_name_bad_pos (b n q1 q2 : Nat) (s : ByteArray) (c : UInt8) (ahead : Int) (w : World) (h : Rd w b s n) (hz : s.size ≤ 4096) (hn : n ≤ s.size) (ha : (ahead == 8) = false) (h1 : Pat.isB s.data.toList 33 33 n = false) (h2 : Pat.one s.data.toList 65 90 n = some (c, q1)) (h3 : Pat.word s.data.toList (ByteArray.mk #[32]).data.toList q1 = some q2) (h4 : Pat.one s.data.toList 97 122 q2 = none) :
    Calls Tryz.prog 252 #[.pointer (some ⟨b, 0, none⟩), .int .i64 ahead] w fun e w' => Fault e ∧ Oth b w w' := by
  have hs0 := hn
  have hs1 := one_sz h2
  have hs2 := word_sz hs1 h3
  have hat : ∀ o, (w.alloc o).cell? ⟨b, 1, none⟩ = some (.int .i64 n) := fun o => (h.alloc o).ha
  have hbb := h.hb
  have H1 := Lib.hid h1
  have H2 := Lib.hid h2
  have H3 := Lib.hid h3
  have H4 := Lib.hid h4
  clear h1 h2 h3 h4
  go_enter Tryz.func252, Tryz.ntmps252
  go_wp2_with fail
  refine (has_is b n n s 33 33 false _ (by exact h.alloc _) hz hn rfl H1.out rfl).mono ?_
  rintro e w1 ⟨rfl, hrd1, ho1⟩
  have L1 := (Lb.new w _ 342).oth ho1 (by omega)
  have O1 := ((Oth.refl b w).alloc _).trans ho1
  have M1 := Lb.new w1 #[.int .u8 0, .int .u8 0, .bool false, .int .i64 1, .int .i64 1] 342
  have hb1 := hrd1.hb
  have z1 := L1.lt
  have hne : ¬ w1.heap.size = w.heap.size := by omega
  have hne1 : ¬ w.heap.size = w1.heap.size := by omega
  go_wp2_with fail
  refine (one_some b (n) q1 s 65 90 c.toNat 65 90 c _ (by exact (hrd1.alloc _)) hz hs0 rfl rfl H2.out rfl).mono ?_
  rintro e w2 ⟨rfl, hrd2, ho2⟩
  have L2 := (L1.alloc (.cells #[.int .u8 0, .int .u8 0, .bool false, .int .i64 1, .int .i64 1] 342)).oth ho2 (by omega)
  have M2 := M1.oth ho2 (by omega)
  have O2 := (O1.alloc _).trans ho2
  have hb2 := hrd2.hb
  have hat2 := hrd2.ha
  clear hat
  clear ho2
  have c2_0 := M2.cell 0 _ rfl
  have c2_1 := M2.cell 1 _ rfl
  have c2_2 := M2.cell 2 _ rfl
  have c2_3 := M2.cell 3 _ rfl
  have c2_4 := M2.cell 4 _ rfl
  have f2 := fun i => M2.frozen i
  go_wp2_with fail
  refine (word_some b (q1) q2 s _ _ (by exact (hrd2.other _ _ (by simp; omega))) hz (by decide) hs1 H3.out).mono ?_
  rintro e w3 ⟨rfl, hrd3, ho3⟩
  have L3 := (L2.other ⟨w1.heap.size, 0, none⟩ (.int .u8 c.toNat) hne1).oth ho3 (by omega)
  have M3 := (M2.set 0 (.int .u8 c.toNat)).oth ho3 (by omega)
  have O3 := (O2.new (by omega) _).trans ho3
  have hb3 := hrd3.hb
  have hat3 := hrd3.ha
  clear hat2
  clear ho3
  have c3_0 := M3.cell 0 _ rfl
  have c3_1 := M3.cell 1 _ rfl
  have c3_2 := M3.cell 2 _ rfl
  have c3_3 := M3.cell 3 _ rfl
  have c3_4 := M3.cell 4 _ rfl
  have f3 := fun i => M3.frozen i
  go_wp2_with fail
  refine (one_none b (q2) s 97 122 97 122 _ (by exact hrd3) hz hs2 rfl rfl H4.out).mono ?_
  rintro e w4 ⟨⟨a, c, rfl, hb⟩, ho4⟩
  exact ⟨rfl, ⟨_, _, rfl, hb⟩, O3.trans ho4⟩

set_option maxHeartbeats 1000000 in
theorem step_bare_pos (b n q1 q2 q3 : Nat) (s : ByteArray) (c d : UInt8) (ahead : Int) (w : World) (h : Rd w b s n) (hz : s.size ≤ 4096) (hn : n ≤ s.size) (ha : (ahead == 8) = false) (h1 : Pat.isB s.data.toList 33 33 n = false) (h2 : Pat.one s.data.toList 65 90 n = some (c, q1)) (h3 : Pat.word s.data.toList (ByteArray.mk #[32]).data.toList q1 = some q2) (h4 : Pat.one s.data.toList 97 122 q2 = some (d, q3)) (h5 : Pat.isB s.data.toList 123 123 q3 = false) :
    Calls Tryz.prog 252 #[.pointer (some ⟨b, 0, none⟩), .int .i64 ahead] w fun e w' => e = .returned (encS ⟨c, d, false, 1, 1⟩) ∧ Rd w' b s q3 ∧ Oth b w w' := by
  have hs0 := hn
  have hs1 := one_sz h2
  have hs2 := word_sz hs1 h3
  have hs3 := one_sz h4
  have hat : ∀ o, (w.alloc o).cell? ⟨b, 1, none⟩ = some (.int .i64 n) := fun o => (h.alloc o).ha
  have hbb := h.hb
  have H1 := Lib.hid h1
  have H2 := Lib.hid h2
  have H3 := Lib.hid h3
  have H4 := Lib.hid h4
  have H5 := Lib.hid h5
  clear h1 h2 h3 h4 h5
  go_enter Tryz.func252, Tryz.ntmps252
  go_wp2_with fail
  refine (has_is b n n s 33 33 false _ (by exact h.alloc _) hz hn rfl H1.out rfl).mono ?_
  rintro e w1 ⟨rfl, hrd1, ho1⟩
  have L1 := (Lb.new w _ 342).oth ho1 (by omega)
  have O1 := ((Oth.refl b w).alloc _).trans ho1
  have M1 := Lb.new w1 #[.int .u8 0, .int .u8 0, .bool false, .int .i64 1, .int .i64 1] 342
  have hb1 := hrd1.hb
  have z1 := L1.lt
  have hne : ¬ w1.heap.size = w.heap.size := by omega
  have hne1 : ¬ w.heap.size = w1.heap.size := by omega
  go_wp2_with fail
  refine (one_some b (n) q1 s 65 90 c.toNat 65 90 c _ (by exact (hrd1.alloc _)) hz hs0 rfl rfl H2.out rfl).mono ?_
  rintro e w2 ⟨rfl, hrd2, ho2⟩
  have L2 := (L1.alloc (.cells #[.int .u8 0, .int .u8 0, .bool false, .int .i64 1, .int .i64 1] 342)).oth ho2 (by omega)
  have M2 := M1.oth ho2 (by omega)
  have O2 := (O1.alloc _).trans ho2
  have hb2 := hrd2.hb
  have hat2 := hrd2.ha
  clear hat
  clear ho2
  have c2_0 := M2.cell 0 _ rfl
  have c2_1 := M2.cell 1 _ rfl
  have c2_2 := M2.cell 2 _ rfl
  have c2_3 := M2.cell 3 _ rfl
  have c2_4 := M2.cell 4 _ rfl
  have f2 := fun i => M2.frozen i
  go_wp2_with fail
  refine (word_some b (q1) q2 s _ _ (by exact (hrd2.other _ _ (by simp; omega))) hz (by decide) hs1 H3.out).mono ?_
  rintro e w3 ⟨rfl, hrd3, ho3⟩
  have L3 := (L2.other ⟨w1.heap.size, 0, none⟩ (.int .u8 c.toNat) hne1).oth ho3 (by omega)
  have M3 := (M2.set 0 (.int .u8 c.toNat)).oth ho3 (by omega)
  have O3 := (O2.new (by omega) _).trans ho3
  have hb3 := hrd3.hb
  have hat3 := hrd3.ha
  clear hat2
  clear ho3
  have c3_0 := M3.cell 0 _ rfl
  have c3_1 := M3.cell 1 _ rfl
  have c3_2 := M3.cell 2 _ rfl
  have c3_3 := M3.cell 3 _ rfl
  have c3_4 := M3.cell 4 _ rfl
  have f3 := fun i => M3.frozen i
  go_wp2_with fail
  refine (one_some b (q2) q3 s 97 122 d.toNat 97 122 d _ (by exact hrd3) hz hs2 rfl rfl H4.out rfl).mono ?_
  rintro e w4 ⟨rfl, hrd4, ho4⟩
  have L4 := L3.oth ho4 (by omega)
  have M4 := M3.oth ho4 (by omega)
  have O4 := O3.trans ho4
  have hb4 := hrd4.hb
  have hat4 := hrd4.ha
  clear hat3
  clear ho4
  have c4_0 := M4.cell 0 _ rfl
  have c4_1 := M4.cell 1 _ rfl
  have c4_2 := M4.cell 2 _ rfl
  have c4_3 := M4.cell 3 _ rfl
  have c4_4 := M4.cell 4 _ rfl
  have f4 := fun i => M4.frozen i
  have haz := (hrd4.other ⟨w1.heap.size, 1, none⟩ (.int .u8 d.toNat) (by simp; omega)).ha
  go_wp2_with fail
  refine (has_is b q3 q3 s 123 123 false _ (by exact (hrd4.other _ _ (by simp; omega))) hz hs3 rfl H5.out rfl).mono ?_
  rintro e w5 ⟨rfl, hrd5, ho5⟩
  have L5 := (L4.other ⟨w1.heap.size, 1, none⟩ (.int .u8 d.toNat) hne1).oth ho5 (by omega)
  have M5 := (M4.set 1 (.int .u8 d.toNat)).oth ho5 (by omega)
  have O5 := (O4.new (by omega) _).trans ho5
  have hb5 := hrd5.hb
  have hat5 := hrd5.ha
  clear hat4
  clear ho5
  have c5_0 := M5.cell 0 _ rfl
  have c5_1 := M5.cell 1 _ rfl
  have c5_2 := M5.cell 2 _ rfl
  have c5_3 := M5.cell 3 _ rfl
  have c5_4 := M5.cell 4 _ rfl
  have f5 := fun i => M5.frozen i
  have d5_0 := L5.cell 0 _ rfl
  have d5_1 := L5.cell 1 _ rfl
  have d5_2 := L5.cell 2 _ rfl
  have d5_3 := L5.cell 3 _ rfl
  have d5_4 := L5.cell 4 _ rfl
  have g5 := fun i => L5.frozen i
  go_wp2
  have LF := (((((L5.set 0 (.int .u8 c.toNat)).set 1 (.int .u8 d.toNat)).set 2 (.bool false)).set 3 (.int .i64 1)).set 4 (.int .i64 1))
  have e0 := LF.cell 0 _ rfl
  have e1 := LF.cell 1 _ rfl
  have e2 := LF.cell 2 _ rfl
  have e3 := LF.cell 3 _ rfl
  have e4 := LF.cell 4 _ rfl
  refine bodyPost_ret (v := encS ⟨c, d, false, 1, 1⟩) (by simp only [results, Tryz.results252]; simp [go_sem, e0, e1, e2, e3, e4, encS]) rfl ⟨rfl, ?_, ?_⟩
  · exact (((((hrd5.other _ _ (by simp; omega)).other _ _ (by simp; omega)).other _ _ (by simp; omega)).other _ _ (by simp; omega)).other _ _ (by simp; omega))
  · exact (((((O5.new (by omega) _).new (by omega) _).new (by omega) _).new (by omega) _).new (by omega) _)

set_option maxHeartbeats 1000000 in
theorem step_lo_bad (b n q1 q2 q3 : Nat) (s : ByteArray) (c d : UInt8) (ahead : Int) (w : World) (h : Rd w b s n) (hz : s.size ≤ 4096) (hn : n ≤ s.size) (ha : (ahead == 8) = false) (h1 : Pat.isB s.data.toList 33 33 n = false) (h2 : Pat.one s.data.toList 65 90 n = some (c, q1)) (h3 : Pat.word s.data.toList (ByteArray.mk #[32]).data.toList q1 = some q2) (h4 : Pat.one s.data.toList 97 122 q2 = some (d, q3)) (h5 : Pat.isB s.data.toList 123 123 q3 = true) (h6 : Pat.number s.data.toList 48 (q3 + 1) = none) :
    Calls Tryz.prog 252 #[.pointer (some ⟨b, 0, none⟩), .int .i64 ahead] w fun e w' => Fault e ∧ Oth b w w' := by
  have hs0 := hn
  have hs1 := one_sz h2
  have hs2 := word_sz hs1 h3
  have hs3 := one_sz h4
  have hs4 := isB_le h5
  have hat : ∀ o, (w.alloc o).cell? ⟨b, 1, none⟩ = some (.int .i64 n) := fun o => (h.alloc o).ha
  have hbb := h.hb
  have H1 := Lib.hid h1
  have H2 := Lib.hid h2
  have H3 := Lib.hid h3
  have H4 := Lib.hid h4
  have H5 := Lib.hid h5
  have H6 := Lib.hid h6
  clear h1 h2 h3 h4 h5 h6
  go_enter Tryz.func252, Tryz.ntmps252
  go_wp2_with fail
  refine (has_is b n n s 33 33 false _ (by exact h.alloc _) hz hn rfl H1.out rfl).mono ?_
  rintro e w1 ⟨rfl, hrd1, ho1⟩
  have L1 := (Lb.new w _ 342).oth ho1 (by omega)
  have O1 := ((Oth.refl b w).alloc _).trans ho1
  have M1 := Lb.new w1 #[.int .u8 0, .int .u8 0, .bool false, .int .i64 1, .int .i64 1] 342
  have hb1 := hrd1.hb
  have z1 := L1.lt
  have hne : ¬ w1.heap.size = w.heap.size := by omega
  have hne1 : ¬ w.heap.size = w1.heap.size := by omega
  go_wp2_with fail
  refine (one_some b (n) q1 s 65 90 c.toNat 65 90 c _ (by exact (hrd1.alloc _)) hz hs0 rfl rfl H2.out rfl).mono ?_
  rintro e w2 ⟨rfl, hrd2, ho2⟩
  have L2 := (L1.alloc (.cells #[.int .u8 0, .int .u8 0, .bool false, .int .i64 1, .int .i64 1] 342)).oth ho2 (by omega)
  have M2 := M1.oth ho2 (by omega)
  have O2 := (O1.alloc _).trans ho2
  have hb2 := hrd2.hb
  have hat2 := hrd2.ha
  clear hat
  clear ho2
  have c2_0 := M2.cell 0 _ rfl
  have c2_1 := M2.cell 1 _ rfl
  have c2_2 := M2.cell 2 _ rfl
  have c2_3 := M2.cell 3 _ rfl
  have c2_4 := M2.cell 4 _ rfl
  have f2 := fun i => M2.frozen i
  go_wp2_with fail
  refine (word_some b (q1) q2 s _ _ (by exact (hrd2.other _ _ (by simp; omega))) hz (by decide) hs1 H3.out).mono ?_
  rintro e w3 ⟨rfl, hrd3, ho3⟩
  have L3 := (L2.other ⟨w1.heap.size, 0, none⟩ (.int .u8 c.toNat) hne1).oth ho3 (by omega)
  have M3 := (M2.set 0 (.int .u8 c.toNat)).oth ho3 (by omega)
  have O3 := (O2.new (by omega) _).trans ho3
  have hb3 := hrd3.hb
  have hat3 := hrd3.ha
  clear hat2
  clear ho3
  have c3_0 := M3.cell 0 _ rfl
  have c3_1 := M3.cell 1 _ rfl
  have c3_2 := M3.cell 2 _ rfl
  have c3_3 := M3.cell 3 _ rfl
  have c3_4 := M3.cell 4 _ rfl
  have f3 := fun i => M3.frozen i
  go_wp2_with fail
  refine (one_some b (q2) q3 s 97 122 d.toNat 97 122 d _ (by exact hrd3) hz hs2 rfl rfl H4.out rfl).mono ?_
  rintro e w4 ⟨rfl, hrd4, ho4⟩
  have L4 := L3.oth ho4 (by omega)
  have M4 := M3.oth ho4 (by omega)
  have O4 := O3.trans ho4
  have hb4 := hrd4.hb
  have hat4 := hrd4.ha
  clear hat3
  clear ho4
  have c4_0 := M4.cell 0 _ rfl
  have c4_1 := M4.cell 1 _ rfl
  have c4_2 := M4.cell 2 _ rfl
  have c4_3 := M4.cell 3 _ rfl
  have c4_4 := M4.cell 4 _ rfl
  have f4 := fun i => M4.frozen i
  have haz := (hrd4.other ⟨w1.heap.size, 1, none⟩ (.int .u8 d.toNat) (by simp; omega)).ha
  go_wp2_with fail
  refine (has_is b q3 (q3 + 1) s 123 123 true _ (by exact (hrd4.other _ _ (by simp; omega))) hz hs3 rfl H5.out rfl).mono ?_
  rintro e w5 ⟨rfl, hrd5, ho5⟩
  have L5 := (L4.other ⟨w1.heap.size, 1, none⟩ (.int .u8 d.toNat) hne1).oth ho5 (by omega)
  have M5 := (M4.set 1 (.int .u8 d.toNat)).oth ho5 (by omega)
  have O5 := (O4.new (by omega) _).trans ho5
  have hb5 := hrd5.hb
  have hat5 := hrd5.ha
  clear hat4
  clear ho5
  have c5_0 := M5.cell 0 _ rfl
  have c5_1 := M5.cell 1 _ rfl
  have c5_2 := M5.cell 2 _ rfl
  have c5_3 := M5.cell 3 _ rfl
  have c5_4 := M5.cell 4 _ rfl
  have f5 := fun i => M5.frozen i
  go_wp2_with fail
  refine (PR.of_none (number_any b (q3 + 1) s 48 48 _ (by exact hrd5) hz hs4 rfl (by decide)) H6.out).mono ?_
  rintro e w6 ⟨⟨a, c, rfl, hb⟩, ho6⟩
  exact ⟨rfl, ⟨_, _, rfl, hb⟩, O5.trans ho6⟩

set_option maxHeartbeats 1000000 in
theorem step_comma_bad (b n q1 q2 q3 q4 : Nat) (s : ByteArray) (c d : UInt8) (lo : Int) (ahead : Int) (w : World) (h : Rd w b s n) (hz : s.size ≤ 4096) (hn : n ≤ s.size) (ha : (ahead == 8) = false) (h1 : Pat.isB s.data.toList 33 33 n = false) (h2 : Pat.one s.data.toList 65 90 n = some (c, q1)) (h3 : Pat.word s.data.toList (ByteArray.mk #[32]).data.toList q1 = some q2) (h4 : Pat.one s.data.toList 97 122 q2 = some (d, q3)) (h5 : Pat.isB s.data.toList 123 123 q3 = true) (h6 : Pat.number s.data.toList 48 (q3 + 1) = some (lo, q4)) (h7 : Pat.word s.data.toList (ByteArray.mk #[44]).data.toList q4 = none) :
    Calls Tryz.prog 252 #[.pointer (some ⟨b, 0, none⟩), .int .i64 ahead] w fun e w' => Fault e ∧ Oth b w w' := by
  have hs0 := hn
  have hs1 := one_sz h2
  have hs2 := word_sz hs1 h3
  have hs3 := one_sz h4
  have hs4 := isB_le h5
  have hbl := number_bd (by decide) h6
  have hs5 : q4 ≤ s.size := by simpa using hbl.2.2
  have hat : ∀ o, (w.alloc o).cell? ⟨b, 1, none⟩ = some (.int .i64 n) := fun o => (h.alloc o).ha
  have hbb := h.hb
  have H1 := Lib.hid h1
  have H2 := Lib.hid h2
  have H3 := Lib.hid h3
  have H4 := Lib.hid h4
  have H5 := Lib.hid h5
  have H6 := Lib.hid h6
  have H7 := Lib.hid h7
  clear h1 h2 h3 h4 h5 h6 h7
  go_enter Tryz.func252, Tryz.ntmps252
  go_wp2_with fail
  refine (has_is b n n s 33 33 false _ (by exact h.alloc _) hz hn rfl H1.out rfl).mono ?_
  rintro e w1 ⟨rfl, hrd1, ho1⟩
  have L1 := (Lb.new w _ 342).oth ho1 (by omega)
  have O1 := ((Oth.refl b w).alloc _).trans ho1
  have M1 := Lb.new w1 #[.int .u8 0, .int .u8 0, .bool false, .int .i64 1, .int .i64 1] 342
  have hb1 := hrd1.hb
  have z1 := L1.lt
  have hne : ¬ w1.heap.size = w.heap.size := by omega
  have hne1 : ¬ w.heap.size = w1.heap.size := by omega
  go_wp2_with fail
  refine (one_some b (n) q1 s 65 90 c.toNat 65 90 c _ (by exact (hrd1.alloc _)) hz hs0 rfl rfl H2.out rfl).mono ?_
  rintro e w2 ⟨rfl, hrd2, ho2⟩
  have L2 := (L1.alloc (.cells #[.int .u8 0, .int .u8 0, .bool false, .int .i64 1, .int .i64 1] 342)).oth ho2 (by omega)
  have M2 := M1.oth ho2 (by omega)
  have O2 := (O1.alloc _).trans ho2
  have hb2 := hrd2.hb
  have hat2 := hrd2.ha
  clear hat
  clear ho2
  have c2_0 := M2.cell 0 _ rfl
  have c2_1 := M2.cell 1 _ rfl
  have c2_2 := M2.cell 2 _ rfl
  have c2_3 := M2.cell 3 _ rfl
  have c2_4 := M2.cell 4 _ rfl
  have f2 := fun i => M2.frozen i
  go_wp2_with fail
  refine (word_some b (q1) q2 s _ _ (by exact (hrd2.other _ _ (by simp; omega))) hz (by decide) hs1 H3.out).mono ?_
  rintro e w3 ⟨rfl, hrd3, ho3⟩
  have L3 := (L2.other ⟨w1.heap.size, 0, none⟩ (.int .u8 c.toNat) hne1).oth ho3 (by omega)
  have M3 := (M2.set 0 (.int .u8 c.toNat)).oth ho3 (by omega)
  have O3 := (O2.new (by omega) _).trans ho3
  have hb3 := hrd3.hb
  have hat3 := hrd3.ha
  clear hat2
  clear ho3
  have c3_0 := M3.cell 0 _ rfl
  have c3_1 := M3.cell 1 _ rfl
  have c3_2 := M3.cell 2 _ rfl
  have c3_3 := M3.cell 3 _ rfl
  have c3_4 := M3.cell 4 _ rfl
  have f3 := fun i => M3.frozen i
  go_wp2_with fail
  refine (one_some b (q2) q3 s 97 122 d.toNat 97 122 d _ (by exact hrd3) hz hs2 rfl rfl H4.out rfl).mono ?_
  rintro e w4 ⟨rfl, hrd4, ho4⟩
  have L4 := L3.oth ho4 (by omega)
  have M4 := M3.oth ho4 (by omega)
  have O4 := O3.trans ho4
  have hb4 := hrd4.hb
  have hat4 := hrd4.ha
  clear hat3
  clear ho4
  have c4_0 := M4.cell 0 _ rfl
  have c4_1 := M4.cell 1 _ rfl
  have c4_2 := M4.cell 2 _ rfl
  have c4_3 := M4.cell 3 _ rfl
  have c4_4 := M4.cell 4 _ rfl
  have f4 := fun i => M4.frozen i
  have haz := (hrd4.other ⟨w1.heap.size, 1, none⟩ (.int .u8 d.toNat) (by simp; omega)).ha
  go_wp2_with fail
  refine (has_is b q3 (q3 + 1) s 123 123 true _ (by exact (hrd4.other _ _ (by simp; omega))) hz hs3 rfl H5.out rfl).mono ?_
  rintro e w5 ⟨rfl, hrd5, ho5⟩
  have L5 := (L4.other ⟨w1.heap.size, 1, none⟩ (.int .u8 d.toNat) hne1).oth ho5 (by omega)
  have M5 := (M4.set 1 (.int .u8 d.toNat)).oth ho5 (by omega)
  have O5 := (O4.new (by omega) _).trans ho5
  have hb5 := hrd5.hb
  have hat5 := hrd5.ha
  clear hat4
  clear ho5
  have c5_0 := M5.cell 0 _ rfl
  have c5_1 := M5.cell 1 _ rfl
  have c5_2 := M5.cell 2 _ rfl
  have c5_3 := M5.cell 3 _ rfl
  have c5_4 := M5.cell 4 _ rfl
  have f5 := fun i => M5.frozen i
  go_wp2_with fail
  refine (PR.of_some (number_any b (q3 + 1) s 48 48 _ (by exact hrd5) hz hs4 rfl (by decide)) H6.out).mono ?_
  rintro e w6 ⟨rfl, hrd6, ho6⟩
  have L6 := L5.oth ho6 (by omega)
  have M6 := M5.oth ho6 (by omega)
  have O6 := O5.trans ho6
  have hb6 := hrd6.hb
  have hat6 := hrd6.ha
  clear hat5
  clear ho6
  have c6_0 := M6.cell 0 _ rfl
  have c6_1 := M6.cell 1 _ rfl
  have c6_2 := M6.cell 2 _ rfl
  have c6_3 := M6.cell 3 _ rfl
  have c6_4 := M6.cell 4 _ rfl
  have f6 := fun i => M6.frozen i
  go_wp2_with fail
  refine (word_none b (q4) s _ _ (by exact hrd6) hz (by decide) hs5 H7.out).mono ?_
  rintro e w7 ⟨⟨a, c, rfl, hb⟩, ho7⟩
  exact ⟨rfl, ⟨_, _, rfl, hb⟩, O6.trans ho7⟩

set_option maxHeartbeats 1000000 in
theorem step_hi_bad (b n q1 q2 q3 q4 q5 : Nat) (s : ByteArray) (c d : UInt8) (lo : Int) (ahead : Int) (w : World) (h : Rd w b s n) (hz : s.size ≤ 4096) (hn : n ≤ s.size) (ha : (ahead == 8) = false) (h1 : Pat.isB s.data.toList 33 33 n = false) (h2 : Pat.one s.data.toList 65 90 n = some (c, q1)) (h3 : Pat.word s.data.toList (ByteArray.mk #[32]).data.toList q1 = some q2) (h4 : Pat.one s.data.toList 97 122 q2 = some (d, q3)) (h5 : Pat.isB s.data.toList 123 123 q3 = true) (h6 : Pat.number s.data.toList 48 (q3 + 1) = some (lo, q4)) (h7 : Pat.word s.data.toList (ByteArray.mk #[44]).data.toList q4 = some q5) (h8 : Pat.number s.data.toList 48 q5 = none) :
    Calls Tryz.prog 252 #[.pointer (some ⟨b, 0, none⟩), .int .i64 ahead] w fun e w' => Fault e ∧ Oth b w w' := by
  have hs0 := hn
  have hs1 := one_sz h2
  have hs2 := word_sz hs1 h3
  have hs3 := one_sz h4
  have hs4 := isB_le h5
  have hbl := number_bd (by decide) h6
  have hs5 : q4 ≤ s.size := by simpa using hbl.2.2
  have hs6 := word_sz hs5 h7
  have hat : ∀ o, (w.alloc o).cell? ⟨b, 1, none⟩ = some (.int .i64 n) := fun o => (h.alloc o).ha
  have hbb := h.hb
  have H1 := Lib.hid h1
  have H2 := Lib.hid h2
  have H3 := Lib.hid h3
  have H4 := Lib.hid h4
  have H5 := Lib.hid h5
  have H6 := Lib.hid h6
  have H7 := Lib.hid h7
  have H8 := Lib.hid h8
  clear h1 h2 h3 h4 h5 h6 h7 h8
  go_enter Tryz.func252, Tryz.ntmps252
  go_wp2_with fail
  refine (has_is b n n s 33 33 false _ (by exact h.alloc _) hz hn rfl H1.out rfl).mono ?_
  rintro e w1 ⟨rfl, hrd1, ho1⟩
  have L1 := (Lb.new w _ 342).oth ho1 (by omega)
  have O1 := ((Oth.refl b w).alloc _).trans ho1
  have M1 := Lb.new w1 #[.int .u8 0, .int .u8 0, .bool false, .int .i64 1, .int .i64 1] 342
  have hb1 := hrd1.hb
  have z1 := L1.lt
  have hne : ¬ w1.heap.size = w.heap.size := by omega
  have hne1 : ¬ w.heap.size = w1.heap.size := by omega
  go_wp2_with fail
  refine (one_some b (n) q1 s 65 90 c.toNat 65 90 c _ (by exact (hrd1.alloc _)) hz hs0 rfl rfl H2.out rfl).mono ?_
  rintro e w2 ⟨rfl, hrd2, ho2⟩
  have L2 := (L1.alloc (.cells #[.int .u8 0, .int .u8 0, .bool false, .int .i64 1, .int .i64 1] 342)).oth ho2 (by omega)
  have M2 := M1.oth ho2 (by omega)
  have O2 := (O1.alloc _).trans ho2
  have hb2 := hrd2.hb
  have hat2 := hrd2.ha
  clear hat
  clear ho2
  have c2_0 := M2.cell 0 _ rfl
  have c2_1 := M2.cell 1 _ rfl
  have c2_2 := M2.cell 2 _ rfl
  have c2_3 := M2.cell 3 _ rfl
  have c2_4 := M2.cell 4 _ rfl
  have f2 := fun i => M2.frozen i
  go_wp2_with fail
  refine (word_some b (q1) q2 s _ _ (by exact (hrd2.other _ _ (by simp; omega))) hz (by decide) hs1 H3.out).mono ?_
  rintro e w3 ⟨rfl, hrd3, ho3⟩
  have L3 := (L2.other ⟨w1.heap.size, 0, none⟩ (.int .u8 c.toNat) hne1).oth ho3 (by omega)
  have M3 := (M2.set 0 (.int .u8 c.toNat)).oth ho3 (by omega)
  have O3 := (O2.new (by omega) _).trans ho3
  have hb3 := hrd3.hb
  have hat3 := hrd3.ha
  clear hat2
  clear ho3
  have c3_0 := M3.cell 0 _ rfl
  have c3_1 := M3.cell 1 _ rfl
  have c3_2 := M3.cell 2 _ rfl
  have c3_3 := M3.cell 3 _ rfl
  have c3_4 := M3.cell 4 _ rfl
  have f3 := fun i => M3.frozen i
  go_wp2_with fail
  refine (one_some b (q2) q3 s 97 122 d.toNat 97 122 d _ (by exact hrd3) hz hs2 rfl rfl H4.out rfl).mono ?_
  rintro e w4 ⟨rfl, hrd4, ho4⟩
  have L4 := L3.oth ho4 (by omega)
  have M4 := M3.oth ho4 (by omega)
  have O4 := O3.trans ho4
  have hb4 := hrd4.hb
  have hat4 := hrd4.ha
  clear hat3
  clear ho4
  have c4_0 := M4.cell 0 _ rfl
  have c4_1 := M4.cell 1 _ rfl
  have c4_2 := M4.cell 2 _ rfl
  have c4_3 := M4.cell 3 _ rfl
  have c4_4 := M4.cell 4 _ rfl
  have f4 := fun i => M4.frozen i
  have haz := (hrd4.other ⟨w1.heap.size, 1, none⟩ (.int .u8 d.toNat) (by simp; omega)).ha
  go_wp2_with fail
  refine (has_is b q3 (q3 + 1) s 123 123 true _ (by exact (hrd4.other _ _ (by simp; omega))) hz hs3 rfl H5.out rfl).mono ?_
  rintro e w5 ⟨rfl, hrd5, ho5⟩
  have L5 := (L4.other ⟨w1.heap.size, 1, none⟩ (.int .u8 d.toNat) hne1).oth ho5 (by omega)
  have M5 := (M4.set 1 (.int .u8 d.toNat)).oth ho5 (by omega)
  have O5 := (O4.new (by omega) _).trans ho5
  have hb5 := hrd5.hb
  have hat5 := hrd5.ha
  clear hat4
  clear ho5
  have c5_0 := M5.cell 0 _ rfl
  have c5_1 := M5.cell 1 _ rfl
  have c5_2 := M5.cell 2 _ rfl
  have c5_3 := M5.cell 3 _ rfl
  have c5_4 := M5.cell 4 _ rfl
  have f5 := fun i => M5.frozen i
  go_wp2_with fail
  refine (PR.of_some (number_any b (q3 + 1) s 48 48 _ (by exact hrd5) hz hs4 rfl (by decide)) H6.out).mono ?_
  rintro e w6 ⟨rfl, hrd6, ho6⟩
  have L6 := L5.oth ho6 (by omega)
  have M6 := M5.oth ho6 (by omega)
  have O6 := O5.trans ho6
  have hb6 := hrd6.hb
  have hat6 := hrd6.ha
  clear hat5
  clear ho6
  have c6_0 := M6.cell 0 _ rfl
  have c6_1 := M6.cell 1 _ rfl
  have c6_2 := M6.cell 2 _ rfl
  have c6_3 := M6.cell 3 _ rfl
  have c6_4 := M6.cell 4 _ rfl
  have f6 := fun i => M6.frozen i
  go_wp2_with fail
  refine (word_some b (q4) q5 s _ _ (by exact hrd6) hz (by decide) hs5 H7.out).mono ?_
  rintro e w7 ⟨rfl, hrd7, ho7⟩
  have L7 := L6.oth ho7 (by omega)
  have M7 := M6.oth ho7 (by omega)
  have O7 := O6.trans ho7
  have hb7 := hrd7.hb
  have hat7 := hrd7.ha
  clear hat6
  clear ho7
  have c7_0 := M7.cell 0 _ rfl
  have c7_1 := M7.cell 1 _ rfl
  have c7_2 := M7.cell 2 _ rfl
  have c7_3 := M7.cell 3 _ rfl
  have c7_4 := M7.cell 4 _ rfl
  have f7 := fun i => M7.frozen i
  go_wp2_with fail
  refine (PR.of_none (number_any b (q5) s 48 48 _ (by exact hrd7) hz hs6 rfl (by decide)) H8.out).mono ?_
  rintro e w8 ⟨⟨a, c, rfl, hb⟩, ho8⟩
  exact ⟨rfl, ⟨_, _, rfl, hb⟩, O7.trans ho8⟩

set_option maxHeartbeats 1000000 in
theorem step_close_bad (b n q1 q2 q3 q4 q5 q6 : Nat) (s : ByteArray) (c d : UInt8) (lo hi : Int) (ahead : Int) (w : World) (h : Rd w b s n) (hz : s.size ≤ 4096) (hn : n ≤ s.size) (ha : (ahead == 8) = false) (h1 : Pat.isB s.data.toList 33 33 n = false) (h2 : Pat.one s.data.toList 65 90 n = some (c, q1)) (h3 : Pat.word s.data.toList (ByteArray.mk #[32]).data.toList q1 = some q2) (h4 : Pat.one s.data.toList 97 122 q2 = some (d, q3)) (h5 : Pat.isB s.data.toList 123 123 q3 = true) (h6 : Pat.number s.data.toList 48 (q3 + 1) = some (lo, q4)) (h7 : Pat.word s.data.toList (ByteArray.mk #[44]).data.toList q4 = some q5) (h8 : Pat.number s.data.toList 48 q5 = some (hi, q6)) (h9 : Pat.word s.data.toList (ByteArray.mk #[125]).data.toList q6 = none) :
    Calls Tryz.prog 252 #[.pointer (some ⟨b, 0, none⟩), .int .i64 ahead] w fun e w' => Fault e ∧ Oth b w w' := by
  have hs0 := hn
  have hs1 := one_sz h2
  have hs2 := word_sz hs1 h3
  have hs3 := one_sz h4
  have hs4 := isB_le h5
  have hbl := number_bd (by decide) h6
  have hs5 : q4 ≤ s.size := by simpa using hbl.2.2
  have hs6 := word_sz hs5 h7
  have hbh := number_bd (by decide) h8
  have hs7 : q6 ≤ s.size := by simpa using hbh.2.2
  have hat : ∀ o, (w.alloc o).cell? ⟨b, 1, none⟩ = some (.int .i64 n) := fun o => (h.alloc o).ha
  have hbb := h.hb
  have H1 := Lib.hid h1
  have H2 := Lib.hid h2
  have H3 := Lib.hid h3
  have H4 := Lib.hid h4
  have H5 := Lib.hid h5
  have H6 := Lib.hid h6
  have H7 := Lib.hid h7
  have H8 := Lib.hid h8
  have H9 := Lib.hid h9
  clear h1 h2 h3 h4 h5 h6 h7 h8 h9
  go_enter Tryz.func252, Tryz.ntmps252
  go_wp2_with fail
  refine (has_is b n n s 33 33 false _ (by exact h.alloc _) hz hn rfl H1.out rfl).mono ?_
  rintro e w1 ⟨rfl, hrd1, ho1⟩
  have L1 := (Lb.new w _ 342).oth ho1 (by omega)
  have O1 := ((Oth.refl b w).alloc _).trans ho1
  have M1 := Lb.new w1 #[.int .u8 0, .int .u8 0, .bool false, .int .i64 1, .int .i64 1] 342
  have hb1 := hrd1.hb
  have z1 := L1.lt
  have hne : ¬ w1.heap.size = w.heap.size := by omega
  have hne1 : ¬ w.heap.size = w1.heap.size := by omega
  go_wp2_with fail
  refine (one_some b (n) q1 s 65 90 c.toNat 65 90 c _ (by exact (hrd1.alloc _)) hz hs0 rfl rfl H2.out rfl).mono ?_
  rintro e w2 ⟨rfl, hrd2, ho2⟩
  have L2 := (L1.alloc (.cells #[.int .u8 0, .int .u8 0, .bool false, .int .i64 1, .int .i64 1] 342)).oth ho2 (by omega)
  have M2 := M1.oth ho2 (by omega)
  have O2 := (O1.alloc _).trans ho2
  have hb2 := hrd2.hb
  have hat2 := hrd2.ha
  clear hat
  clear ho2
  have c2_0 := M2.cell 0 _ rfl
  have c2_1 := M2.cell 1 _ rfl
  have c2_2 := M2.cell 2 _ rfl
  have c2_3 := M2.cell 3 _ rfl
  have c2_4 := M2.cell 4 _ rfl
  have f2 := fun i => M2.frozen i
  go_wp2_with fail
  refine (word_some b (q1) q2 s _ _ (by exact (hrd2.other _ _ (by simp; omega))) hz (by decide) hs1 H3.out).mono ?_
  rintro e w3 ⟨rfl, hrd3, ho3⟩
  have L3 := (L2.other ⟨w1.heap.size, 0, none⟩ (.int .u8 c.toNat) hne1).oth ho3 (by omega)
  have M3 := (M2.set 0 (.int .u8 c.toNat)).oth ho3 (by omega)
  have O3 := (O2.new (by omega) _).trans ho3
  have hb3 := hrd3.hb
  have hat3 := hrd3.ha
  clear hat2
  clear ho3
  have c3_0 := M3.cell 0 _ rfl
  have c3_1 := M3.cell 1 _ rfl
  have c3_2 := M3.cell 2 _ rfl
  have c3_3 := M3.cell 3 _ rfl
  have c3_4 := M3.cell 4 _ rfl
  have f3 := fun i => M3.frozen i
  go_wp2_with fail
  refine (one_some b (q2) q3 s 97 122 d.toNat 97 122 d _ (by exact hrd3) hz hs2 rfl rfl H4.out rfl).mono ?_
  rintro e w4 ⟨rfl, hrd4, ho4⟩
  have L4 := L3.oth ho4 (by omega)
  have M4 := M3.oth ho4 (by omega)
  have O4 := O3.trans ho4
  have hb4 := hrd4.hb
  have hat4 := hrd4.ha
  clear hat3
  clear ho4
  have c4_0 := M4.cell 0 _ rfl
  have c4_1 := M4.cell 1 _ rfl
  have c4_2 := M4.cell 2 _ rfl
  have c4_3 := M4.cell 3 _ rfl
  have c4_4 := M4.cell 4 _ rfl
  have f4 := fun i => M4.frozen i
  have haz := (hrd4.other ⟨w1.heap.size, 1, none⟩ (.int .u8 d.toNat) (by simp; omega)).ha
  go_wp2_with fail
  refine (has_is b q3 (q3 + 1) s 123 123 true _ (by exact (hrd4.other _ _ (by simp; omega))) hz hs3 rfl H5.out rfl).mono ?_
  rintro e w5 ⟨rfl, hrd5, ho5⟩
  have L5 := (L4.other ⟨w1.heap.size, 1, none⟩ (.int .u8 d.toNat) hne1).oth ho5 (by omega)
  have M5 := (M4.set 1 (.int .u8 d.toNat)).oth ho5 (by omega)
  have O5 := (O4.new (by omega) _).trans ho5
  have hb5 := hrd5.hb
  have hat5 := hrd5.ha
  clear hat4
  clear ho5
  have c5_0 := M5.cell 0 _ rfl
  have c5_1 := M5.cell 1 _ rfl
  have c5_2 := M5.cell 2 _ rfl
  have c5_3 := M5.cell 3 _ rfl
  have c5_4 := M5.cell 4 _ rfl
  have f5 := fun i => M5.frozen i
  go_wp2_with fail
  refine (PR.of_some (number_any b (q3 + 1) s 48 48 _ (by exact hrd5) hz hs4 rfl (by decide)) H6.out).mono ?_
  rintro e w6 ⟨rfl, hrd6, ho6⟩
  have L6 := L5.oth ho6 (by omega)
  have M6 := M5.oth ho6 (by omega)
  have O6 := O5.trans ho6
  have hb6 := hrd6.hb
  have hat6 := hrd6.ha
  clear hat5
  clear ho6
  have c6_0 := M6.cell 0 _ rfl
  have c6_1 := M6.cell 1 _ rfl
  have c6_2 := M6.cell 2 _ rfl
  have c6_3 := M6.cell 3 _ rfl
  have c6_4 := M6.cell 4 _ rfl
  have f6 := fun i => M6.frozen i
  go_wp2_with fail
  refine (word_some b (q4) q5 s _ _ (by exact hrd6) hz (by decide) hs5 H7.out).mono ?_
  rintro e w7 ⟨rfl, hrd7, ho7⟩
  have L7 := L6.oth ho7 (by omega)
  have M7 := M6.oth ho7 (by omega)
  have O7 := O6.trans ho7
  have hb7 := hrd7.hb
  have hat7 := hrd7.ha
  clear hat6
  clear ho7
  have c7_0 := M7.cell 0 _ rfl
  have c7_1 := M7.cell 1 _ rfl
  have c7_2 := M7.cell 2 _ rfl
  have c7_3 := M7.cell 3 _ rfl
  have c7_4 := M7.cell 4 _ rfl
  have f7 := fun i => M7.frozen i
  go_wp2_with fail
  refine (PR.of_some (number_any b (q5) s 48 48 _ (by exact hrd7) hz hs6 rfl (by decide)) H8.out).mono ?_
  rintro e w8 ⟨rfl, hrd8, ho8⟩
  have L8 := L7.oth ho8 (by omega)
  have M8 := M7.oth ho8 (by omega)
  have O8 := O7.trans ho8
  have hb8 := hrd8.hb
  have hat8 := hrd8.ha
  clear hat7
  clear ho8
  have c8_0 := M8.cell 0 _ rfl
  have c8_1 := M8.cell 1 _ rfl
  have c8_2 := M8.cell 2 _ rfl
  have c8_3 := M8.cell 3 _ rfl
  have c8_4 := M8.cell 4 _ rfl
  have f8 := fun i => M8.frozen i
  go_wp2_with fail
  refine (word_none b (q6) s _ _ (by exact hrd8) hz (by decide) hs7 H9.out).mono ?_
  rintro e w9 ⟨⟨a, c, rfl, hb⟩, ho9⟩
  exact ⟨rfl, ⟨_, _, rfl, hb⟩, O8.trans ho9⟩

set_option maxHeartbeats 1000000 in
theorem step_count_a (b n q1 q2 q3 q4 q5 q6 q7 : Nat) (s : ByteArray) (c d : UInt8) (lo hi : Int) (ahead : Int) (w : World) (h : Rd w b s n) (hz : s.size ≤ 4096) (hn : n ≤ s.size) (ha : (ahead == 8) = false) (h1 : Pat.isB s.data.toList 33 33 n = false) (h2 : Pat.one s.data.toList 65 90 n = some (c, q1)) (h3 : Pat.word s.data.toList (ByteArray.mk #[32]).data.toList q1 = some q2) (h4 : Pat.one s.data.toList 97 122 q2 = some (d, q3)) (h5 : Pat.isB s.data.toList 123 123 q3 = true) (h6 : Pat.number s.data.toList 48 (q3 + 1) = some (lo, q4)) (h7 : Pat.word s.data.toList (ByteArray.mk #[44]).data.toList q4 = some q5) (h8 : Pat.number s.data.toList 48 q5 = some (hi, q6)) (h9 : Pat.word s.data.toList (ByteArray.mk #[125]).data.toList q6 = some q7) (k1 : lo < 1) :
    Calls Tryz.prog 252 #[.pointer (some ⟨b, 0, none⟩), .int .i64 ahead] w fun e w' => Fault e ∧ Oth b w w' := by
  have hs0 := hn
  have hs1 := one_sz h2
  have hs2 := word_sz hs1 h3
  have hs3 := one_sz h4
  have hs4 := isB_le h5
  have hbl := number_bd (by decide) h6
  have hs5 : q4 ≤ s.size := by simpa using hbl.2.2
  have hs6 := word_sz hs5 h7
  have hbh := number_bd (by decide) h8
  have hs7 : q6 ≤ s.size := by simpa using hbh.2.2
  have hat : ∀ o, (w.alloc o).cell? ⟨b, 1, none⟩ = some (.int .i64 n) := fun o => (h.alloc o).ha
  have hbb := h.hb
  have H1 := Lib.hid h1
  have H2 := Lib.hid h2
  have H3 := Lib.hid h3
  have H4 := Lib.hid h4
  have H5 := Lib.hid h5
  have H6 := Lib.hid h6
  have H7 := Lib.hid h7
  have H8 := Lib.hid h8
  have H9 := Lib.hid h9
  clear h1 h2 h3 h4 h5 h6 h7 h8 h9
  go_enter Tryz.func252, Tryz.ntmps252
  go_wp2_with fail
  refine (has_is b n n s 33 33 false _ (by exact h.alloc _) hz hn rfl H1.out rfl).mono ?_
  rintro e w1 ⟨rfl, hrd1, ho1⟩
  have L1 := (Lb.new w _ 342).oth ho1 (by omega)
  have O1 := ((Oth.refl b w).alloc _).trans ho1
  have M1 := Lb.new w1 #[.int .u8 0, .int .u8 0, .bool false, .int .i64 1, .int .i64 1] 342
  have hb1 := hrd1.hb
  have z1 := L1.lt
  have hne : ¬ w1.heap.size = w.heap.size := by omega
  have hne1 : ¬ w.heap.size = w1.heap.size := by omega
  go_wp2_with fail
  refine (one_some b (n) q1 s 65 90 c.toNat 65 90 c _ (by exact (hrd1.alloc _)) hz hs0 rfl rfl H2.out rfl).mono ?_
  rintro e w2 ⟨rfl, hrd2, ho2⟩
  have L2 := (L1.alloc (.cells #[.int .u8 0, .int .u8 0, .bool false, .int .i64 1, .int .i64 1] 342)).oth ho2 (by omega)
  have M2 := M1.oth ho2 (by omega)
  have O2 := (O1.alloc _).trans ho2
  have hb2 := hrd2.hb
  have hat2 := hrd2.ha
  clear hat
  clear ho2
  have c2_0 := M2.cell 0 _ rfl
  have c2_1 := M2.cell 1 _ rfl
  have c2_2 := M2.cell 2 _ rfl
  have c2_3 := M2.cell 3 _ rfl
  have c2_4 := M2.cell 4 _ rfl
  have f2 := fun i => M2.frozen i
  go_wp2_with fail
  refine (word_some b (q1) q2 s _ _ (by exact (hrd2.other _ _ (by simp; omega))) hz (by decide) hs1 H3.out).mono ?_
  rintro e w3 ⟨rfl, hrd3, ho3⟩
  have L3 := (L2.other ⟨w1.heap.size, 0, none⟩ (.int .u8 c.toNat) hne1).oth ho3 (by omega)
  have M3 := (M2.set 0 (.int .u8 c.toNat)).oth ho3 (by omega)
  have O3 := (O2.new (by omega) _).trans ho3
  have hb3 := hrd3.hb
  have hat3 := hrd3.ha
  clear hat2
  clear ho3
  have c3_0 := M3.cell 0 _ rfl
  have c3_1 := M3.cell 1 _ rfl
  have c3_2 := M3.cell 2 _ rfl
  have c3_3 := M3.cell 3 _ rfl
  have c3_4 := M3.cell 4 _ rfl
  have f3 := fun i => M3.frozen i
  go_wp2_with fail
  refine (one_some b (q2) q3 s 97 122 d.toNat 97 122 d _ (by exact hrd3) hz hs2 rfl rfl H4.out rfl).mono ?_
  rintro e w4 ⟨rfl, hrd4, ho4⟩
  have L4 := L3.oth ho4 (by omega)
  have M4 := M3.oth ho4 (by omega)
  have O4 := O3.trans ho4
  have hb4 := hrd4.hb
  have hat4 := hrd4.ha
  clear hat3
  clear ho4
  have c4_0 := M4.cell 0 _ rfl
  have c4_1 := M4.cell 1 _ rfl
  have c4_2 := M4.cell 2 _ rfl
  have c4_3 := M4.cell 3 _ rfl
  have c4_4 := M4.cell 4 _ rfl
  have f4 := fun i => M4.frozen i
  have haz := (hrd4.other ⟨w1.heap.size, 1, none⟩ (.int .u8 d.toNat) (by simp; omega)).ha
  go_wp2_with fail
  refine (has_is b q3 (q3 + 1) s 123 123 true _ (by exact (hrd4.other _ _ (by simp; omega))) hz hs3 rfl H5.out rfl).mono ?_
  rintro e w5 ⟨rfl, hrd5, ho5⟩
  have L5 := (L4.other ⟨w1.heap.size, 1, none⟩ (.int .u8 d.toNat) hne1).oth ho5 (by omega)
  have M5 := (M4.set 1 (.int .u8 d.toNat)).oth ho5 (by omega)
  have O5 := (O4.new (by omega) _).trans ho5
  have hb5 := hrd5.hb
  have hat5 := hrd5.ha
  clear hat4
  clear ho5
  have c5_0 := M5.cell 0 _ rfl
  have c5_1 := M5.cell 1 _ rfl
  have c5_2 := M5.cell 2 _ rfl
  have c5_3 := M5.cell 3 _ rfl
  have c5_4 := M5.cell 4 _ rfl
  have f5 := fun i => M5.frozen i
  go_wp2_with fail
  refine (PR.of_some (number_any b (q3 + 1) s 48 48 _ (by exact hrd5) hz hs4 rfl (by decide)) H6.out).mono ?_
  rintro e w6 ⟨rfl, hrd6, ho6⟩
  have L6 := L5.oth ho6 (by omega)
  have M6 := M5.oth ho6 (by omega)
  have O6 := O5.trans ho6
  have hb6 := hrd6.hb
  have hat6 := hrd6.ha
  clear hat5
  clear ho6
  have c6_0 := M6.cell 0 _ rfl
  have c6_1 := M6.cell 1 _ rfl
  have c6_2 := M6.cell 2 _ rfl
  have c6_3 := M6.cell 3 _ rfl
  have c6_4 := M6.cell 4 _ rfl
  have f6 := fun i => M6.frozen i
  go_wp2_with fail
  refine (word_some b (q4) q5 s _ _ (by exact hrd6) hz (by decide) hs5 H7.out).mono ?_
  rintro e w7 ⟨rfl, hrd7, ho7⟩
  have L7 := L6.oth ho7 (by omega)
  have M7 := M6.oth ho7 (by omega)
  have O7 := O6.trans ho7
  have hb7 := hrd7.hb
  have hat7 := hrd7.ha
  clear hat6
  clear ho7
  have c7_0 := M7.cell 0 _ rfl
  have c7_1 := M7.cell 1 _ rfl
  have c7_2 := M7.cell 2 _ rfl
  have c7_3 := M7.cell 3 _ rfl
  have c7_4 := M7.cell 4 _ rfl
  have f7 := fun i => M7.frozen i
  go_wp2_with fail
  refine (PR.of_some (number_any b (q5) s 48 48 _ (by exact hrd7) hz hs6 rfl (by decide)) H8.out).mono ?_
  rintro e w8 ⟨rfl, hrd8, ho8⟩
  have L8 := L7.oth ho8 (by omega)
  have M8 := M7.oth ho8 (by omega)
  have O8 := O7.trans ho8
  have hb8 := hrd8.hb
  have hat8 := hrd8.ha
  clear hat7
  clear ho8
  have c8_0 := M8.cell 0 _ rfl
  have c8_1 := M8.cell 1 _ rfl
  have c8_2 := M8.cell 2 _ rfl
  have c8_3 := M8.cell 3 _ rfl
  have c8_4 := M8.cell 4 _ rfl
  have f8 := fun i => M8.frozen i
  go_wp2_with fail
  refine (word_some b (q6) q7 s _ _ (by exact hrd8) hz (by decide) hs7 H9.out).mono ?_
  rintro e w9 ⟨rfl, hrd9, ho9⟩
  have L9 := L8.oth ho9 (by omega)
  have M9 := M8.oth ho9 (by omega)
  have O9 := O8.trans ho9
  have hb9 := hrd9.hb
  have hat9 := hrd9.ha
  clear hat8
  clear ho9
  have c9_0 := M9.cell 0 _ rfl
  have c9_1 := M9.cell 1 _ rfl
  have c9_2 := M9.cell 2 _ rfl
  have c9_3 := M9.cell 3 _ rfl
  have c9_4 := M9.cell 4 _ rfl
  have f9 := fun i => M9.frozen i
  go_wp2_with (go_at_call 170; refine (fail_any _ _ _ _).mono ?_; rintro e wf ⟨rfl, rfl⟩)
  exact ⟨rfl, ⟨_, _, rfl, by simp [Bad]⟩, O9⟩

set_option maxHeartbeats 1000000 in
theorem step_count_b (b n q1 q2 q3 q4 q5 q6 q7 : Nat) (s : ByteArray) (c d : UInt8) (lo hi : Int) (ahead : Int) (w : World) (h : Rd w b s n) (hz : s.size ≤ 4096) (hn : n ≤ s.size) (ha : (ahead == 8) = false) (h1 : Pat.isB s.data.toList 33 33 n = false) (h2 : Pat.one s.data.toList 65 90 n = some (c, q1)) (h3 : Pat.word s.data.toList (ByteArray.mk #[32]).data.toList q1 = some q2) (h4 : Pat.one s.data.toList 97 122 q2 = some (d, q3)) (h5 : Pat.isB s.data.toList 123 123 q3 = true) (h6 : Pat.number s.data.toList 48 (q3 + 1) = some (lo, q4)) (h7 : Pat.word s.data.toList (ByteArray.mk #[44]).data.toList q4 = some q5) (h8 : Pat.number s.data.toList 48 q5 = some (hi, q6)) (h9 : Pat.word s.data.toList (ByteArray.mk #[125]).data.toList q6 = some q7) (k1 : ¬ lo < 1) (k2 : hi < lo) :
    Calls Tryz.prog 252 #[.pointer (some ⟨b, 0, none⟩), .int .i64 ahead] w fun e w' => Fault e ∧ Oth b w w' := by
  have hs0 := hn
  have hs1 := one_sz h2
  have hs2 := word_sz hs1 h3
  have hs3 := one_sz h4
  have hs4 := isB_le h5
  have hbl := number_bd (by decide) h6
  have hs5 : q4 ≤ s.size := by simpa using hbl.2.2
  have hs6 := word_sz hs5 h7
  have hbh := number_bd (by decide) h8
  have hs7 : q6 ≤ s.size := by simpa using hbh.2.2
  have hat : ∀ o, (w.alloc o).cell? ⟨b, 1, none⟩ = some (.int .i64 n) := fun o => (h.alloc o).ha
  have hbb := h.hb
  have H1 := Lib.hid h1
  have H2 := Lib.hid h2
  have H3 := Lib.hid h3
  have H4 := Lib.hid h4
  have H5 := Lib.hid h5
  have H6 := Lib.hid h6
  have H7 := Lib.hid h7
  have H8 := Lib.hid h8
  have H9 := Lib.hid h9
  clear h1 h2 h3 h4 h5 h6 h7 h8 h9
  go_enter Tryz.func252, Tryz.ntmps252
  go_wp2_with fail
  refine (has_is b n n s 33 33 false _ (by exact h.alloc _) hz hn rfl H1.out rfl).mono ?_
  rintro e w1 ⟨rfl, hrd1, ho1⟩
  have L1 := (Lb.new w _ 342).oth ho1 (by omega)
  have O1 := ((Oth.refl b w).alloc _).trans ho1
  have M1 := Lb.new w1 #[.int .u8 0, .int .u8 0, .bool false, .int .i64 1, .int .i64 1] 342
  have hb1 := hrd1.hb
  have z1 := L1.lt
  have hne : ¬ w1.heap.size = w.heap.size := by omega
  have hne1 : ¬ w.heap.size = w1.heap.size := by omega
  go_wp2_with fail
  refine (one_some b (n) q1 s 65 90 c.toNat 65 90 c _ (by exact (hrd1.alloc _)) hz hs0 rfl rfl H2.out rfl).mono ?_
  rintro e w2 ⟨rfl, hrd2, ho2⟩
  have L2 := (L1.alloc (.cells #[.int .u8 0, .int .u8 0, .bool false, .int .i64 1, .int .i64 1] 342)).oth ho2 (by omega)
  have M2 := M1.oth ho2 (by omega)
  have O2 := (O1.alloc _).trans ho2
  have hb2 := hrd2.hb
  have hat2 := hrd2.ha
  clear hat
  clear ho2
  have c2_0 := M2.cell 0 _ rfl
  have c2_1 := M2.cell 1 _ rfl
  have c2_2 := M2.cell 2 _ rfl
  have c2_3 := M2.cell 3 _ rfl
  have c2_4 := M2.cell 4 _ rfl
  have f2 := fun i => M2.frozen i
  go_wp2_with fail
  refine (word_some b (q1) q2 s _ _ (by exact (hrd2.other _ _ (by simp; omega))) hz (by decide) hs1 H3.out).mono ?_
  rintro e w3 ⟨rfl, hrd3, ho3⟩
  have L3 := (L2.other ⟨w1.heap.size, 0, none⟩ (.int .u8 c.toNat) hne1).oth ho3 (by omega)
  have M3 := (M2.set 0 (.int .u8 c.toNat)).oth ho3 (by omega)
  have O3 := (O2.new (by omega) _).trans ho3
  have hb3 := hrd3.hb
  have hat3 := hrd3.ha
  clear hat2
  clear ho3
  have c3_0 := M3.cell 0 _ rfl
  have c3_1 := M3.cell 1 _ rfl
  have c3_2 := M3.cell 2 _ rfl
  have c3_3 := M3.cell 3 _ rfl
  have c3_4 := M3.cell 4 _ rfl
  have f3 := fun i => M3.frozen i
  go_wp2_with fail
  refine (one_some b (q2) q3 s 97 122 d.toNat 97 122 d _ (by exact hrd3) hz hs2 rfl rfl H4.out rfl).mono ?_
  rintro e w4 ⟨rfl, hrd4, ho4⟩
  have L4 := L3.oth ho4 (by omega)
  have M4 := M3.oth ho4 (by omega)
  have O4 := O3.trans ho4
  have hb4 := hrd4.hb
  have hat4 := hrd4.ha
  clear hat3
  clear ho4
  have c4_0 := M4.cell 0 _ rfl
  have c4_1 := M4.cell 1 _ rfl
  have c4_2 := M4.cell 2 _ rfl
  have c4_3 := M4.cell 3 _ rfl
  have c4_4 := M4.cell 4 _ rfl
  have f4 := fun i => M4.frozen i
  have haz := (hrd4.other ⟨w1.heap.size, 1, none⟩ (.int .u8 d.toNat) (by simp; omega)).ha
  go_wp2_with fail
  refine (has_is b q3 (q3 + 1) s 123 123 true _ (by exact (hrd4.other _ _ (by simp; omega))) hz hs3 rfl H5.out rfl).mono ?_
  rintro e w5 ⟨rfl, hrd5, ho5⟩
  have L5 := (L4.other ⟨w1.heap.size, 1, none⟩ (.int .u8 d.toNat) hne1).oth ho5 (by omega)
  have M5 := (M4.set 1 (.int .u8 d.toNat)).oth ho5 (by omega)
  have O5 := (O4.new (by omega) _).trans ho5
  have hb5 := hrd5.hb
  have hat5 := hrd5.ha
  clear hat4
  clear ho5
  have c5_0 := M5.cell 0 _ rfl
  have c5_1 := M5.cell 1 _ rfl
  have c5_2 := M5.cell 2 _ rfl
  have c5_3 := M5.cell 3 _ rfl
  have c5_4 := M5.cell 4 _ rfl
  have f5 := fun i => M5.frozen i
  go_wp2_with fail
  refine (PR.of_some (number_any b (q3 + 1) s 48 48 _ (by exact hrd5) hz hs4 rfl (by decide)) H6.out).mono ?_
  rintro e w6 ⟨rfl, hrd6, ho6⟩
  have L6 := L5.oth ho6 (by omega)
  have M6 := M5.oth ho6 (by omega)
  have O6 := O5.trans ho6
  have hb6 := hrd6.hb
  have hat6 := hrd6.ha
  clear hat5
  clear ho6
  have c6_0 := M6.cell 0 _ rfl
  have c6_1 := M6.cell 1 _ rfl
  have c6_2 := M6.cell 2 _ rfl
  have c6_3 := M6.cell 3 _ rfl
  have c6_4 := M6.cell 4 _ rfl
  have f6 := fun i => M6.frozen i
  go_wp2_with fail
  refine (word_some b (q4) q5 s _ _ (by exact hrd6) hz (by decide) hs5 H7.out).mono ?_
  rintro e w7 ⟨rfl, hrd7, ho7⟩
  have L7 := L6.oth ho7 (by omega)
  have M7 := M6.oth ho7 (by omega)
  have O7 := O6.trans ho7
  have hb7 := hrd7.hb
  have hat7 := hrd7.ha
  clear hat6
  clear ho7
  have c7_0 := M7.cell 0 _ rfl
  have c7_1 := M7.cell 1 _ rfl
  have c7_2 := M7.cell 2 _ rfl
  have c7_3 := M7.cell 3 _ rfl
  have c7_4 := M7.cell 4 _ rfl
  have f7 := fun i => M7.frozen i
  go_wp2_with fail
  refine (PR.of_some (number_any b (q5) s 48 48 _ (by exact hrd7) hz hs6 rfl (by decide)) H8.out).mono ?_
  rintro e w8 ⟨rfl, hrd8, ho8⟩
  have L8 := L7.oth ho8 (by omega)
  have M8 := M7.oth ho8 (by omega)
  have O8 := O7.trans ho8
  have hb8 := hrd8.hb
  have hat8 := hrd8.ha
  clear hat7
  clear ho8
  have c8_0 := M8.cell 0 _ rfl
  have c8_1 := M8.cell 1 _ rfl
  have c8_2 := M8.cell 2 _ rfl
  have c8_3 := M8.cell 3 _ rfl
  have c8_4 := M8.cell 4 _ rfl
  have f8 := fun i => M8.frozen i
  go_wp2_with fail
  refine (word_some b (q6) q7 s _ _ (by exact hrd8) hz (by decide) hs7 H9.out).mono ?_
  rintro e w9 ⟨rfl, hrd9, ho9⟩
  have L9 := L8.oth ho9 (by omega)
  have M9 := M8.oth ho9 (by omega)
  have O9 := O8.trans ho9
  have hb9 := hrd9.hb
  have hat9 := hrd9.ha
  clear hat8
  clear ho9
  have c9_0 := M9.cell 0 _ rfl
  have c9_1 := M9.cell 1 _ rfl
  have c9_2 := M9.cell 2 _ rfl
  have c9_3 := M9.cell 3 _ rfl
  have c9_4 := M9.cell 4 _ rfl
  have f9 := fun i => M9.frozen i
  go_wp2_with (go_at_call 170; refine (fail_any _ _ _ _).mono ?_; rintro e wf ⟨rfl, rfl⟩)
  exact ⟨rfl, ⟨_, _, rfl, by simp [Bad]⟩, O9⟩

set_option maxHeartbeats 1000000 in
theorem step_count_c (b n q1 q2 q3 q4 q5 q6 q7 : Nat) (s : ByteArray) (c d : UInt8) (lo hi : Int) (ahead : Int) (w : World) (h : Rd w b s n) (hz : s.size ≤ 4096) (hn : n ≤ s.size) (ha : (ahead == 8) = false) (h1 : Pat.isB s.data.toList 33 33 n = false) (h2 : Pat.one s.data.toList 65 90 n = some (c, q1)) (h3 : Pat.word s.data.toList (ByteArray.mk #[32]).data.toList q1 = some q2) (h4 : Pat.one s.data.toList 97 122 q2 = some (d, q3)) (h5 : Pat.isB s.data.toList 123 123 q3 = true) (h6 : Pat.number s.data.toList 48 (q3 + 1) = some (lo, q4)) (h7 : Pat.word s.data.toList (ByteArray.mk #[44]).data.toList q4 = some q5) (h8 : Pat.number s.data.toList 48 q5 = some (hi, q6)) (h9 : Pat.word s.data.toList (ByteArray.mk #[125]).data.toList q6 = some q7) (k1 : ¬ lo < 1) (k2 : ¬ hi < lo) (k3 : 4 < hi) :
    Calls Tryz.prog 252 #[.pointer (some ⟨b, 0, none⟩), .int .i64 ahead] w fun e w' => Fault e ∧ Oth b w w' := by
  have hs0 := hn
  have hs1 := one_sz h2
  have hs2 := word_sz hs1 h3
  have hs3 := one_sz h4
  have hs4 := isB_le h5
  have hbl := number_bd (by decide) h6
  have hs5 : q4 ≤ s.size := by simpa using hbl.2.2
  have hs6 := word_sz hs5 h7
  have hbh := number_bd (by decide) h8
  have hs7 : q6 ≤ s.size := by simpa using hbh.2.2
  have hat : ∀ o, (w.alloc o).cell? ⟨b, 1, none⟩ = some (.int .i64 n) := fun o => (h.alloc o).ha
  have hbb := h.hb
  have H1 := Lib.hid h1
  have H2 := Lib.hid h2
  have H3 := Lib.hid h3
  have H4 := Lib.hid h4
  have H5 := Lib.hid h5
  have H6 := Lib.hid h6
  have H7 := Lib.hid h7
  have H8 := Lib.hid h8
  have H9 := Lib.hid h9
  clear h1 h2 h3 h4 h5 h6 h7 h8 h9
  go_enter Tryz.func252, Tryz.ntmps252
  go_wp2_with fail
  refine (has_is b n n s 33 33 false _ (by exact h.alloc _) hz hn rfl H1.out rfl).mono ?_
  rintro e w1 ⟨rfl, hrd1, ho1⟩
  have L1 := (Lb.new w _ 342).oth ho1 (by omega)
  have O1 := ((Oth.refl b w).alloc _).trans ho1
  have M1 := Lb.new w1 #[.int .u8 0, .int .u8 0, .bool false, .int .i64 1, .int .i64 1] 342
  have hb1 := hrd1.hb
  have z1 := L1.lt
  have hne : ¬ w1.heap.size = w.heap.size := by omega
  have hne1 : ¬ w.heap.size = w1.heap.size := by omega
  go_wp2_with fail
  refine (one_some b (n) q1 s 65 90 c.toNat 65 90 c _ (by exact (hrd1.alloc _)) hz hs0 rfl rfl H2.out rfl).mono ?_
  rintro e w2 ⟨rfl, hrd2, ho2⟩
  have L2 := (L1.alloc (.cells #[.int .u8 0, .int .u8 0, .bool false, .int .i64 1, .int .i64 1] 342)).oth ho2 (by omega)
  have M2 := M1.oth ho2 (by omega)
  have O2 := (O1.alloc _).trans ho2
  have hb2 := hrd2.hb
  have hat2 := hrd2.ha
  clear hat
  clear ho2
  have c2_0 := M2.cell 0 _ rfl
  have c2_1 := M2.cell 1 _ rfl
  have c2_2 := M2.cell 2 _ rfl
  have c2_3 := M2.cell 3 _ rfl
  have c2_4 := M2.cell 4 _ rfl
  have f2 := fun i => M2.frozen i
  go_wp2_with fail
  refine (word_some b (q1) q2 s _ _ (by exact (hrd2.other _ _ (by simp; omega))) hz (by decide) hs1 H3.out).mono ?_
  rintro e w3 ⟨rfl, hrd3, ho3⟩
  have L3 := (L2.other ⟨w1.heap.size, 0, none⟩ (.int .u8 c.toNat) hne1).oth ho3 (by omega)
  have M3 := (M2.set 0 (.int .u8 c.toNat)).oth ho3 (by omega)
  have O3 := (O2.new (by omega) _).trans ho3
  have hb3 := hrd3.hb
  have hat3 := hrd3.ha
  clear hat2
  clear ho3
  have c3_0 := M3.cell 0 _ rfl
  have c3_1 := M3.cell 1 _ rfl
  have c3_2 := M3.cell 2 _ rfl
  have c3_3 := M3.cell 3 _ rfl
  have c3_4 := M3.cell 4 _ rfl
  have f3 := fun i => M3.frozen i
  go_wp2_with fail
  refine (one_some b (q2) q3 s 97 122 d.toNat 97 122 d _ (by exact hrd3) hz hs2 rfl rfl H4.out rfl).mono ?_
  rintro e w4 ⟨rfl, hrd4, ho4⟩
  have L4 := L3.oth ho4 (by omega)
  have M4 := M3.oth ho4 (by omega)
  have O4 := O3.trans ho4
  have hb4 := hrd4.hb
  have hat4 := hrd4.ha
  clear hat3
  clear ho4
  have c4_0 := M4.cell 0 _ rfl
  have c4_1 := M4.cell 1 _ rfl
  have c4_2 := M4.cell 2 _ rfl
  have c4_3 := M4.cell 3 _ rfl
  have c4_4 := M4.cell 4 _ rfl
  have f4 := fun i => M4.frozen i
  have haz := (hrd4.other ⟨w1.heap.size, 1, none⟩ (.int .u8 d.toNat) (by simp; omega)).ha
  go_wp2_with fail
  refine (has_is b q3 (q3 + 1) s 123 123 true _ (by exact (hrd4.other _ _ (by simp; omega))) hz hs3 rfl H5.out rfl).mono ?_
  rintro e w5 ⟨rfl, hrd5, ho5⟩
  have L5 := (L4.other ⟨w1.heap.size, 1, none⟩ (.int .u8 d.toNat) hne1).oth ho5 (by omega)
  have M5 := (M4.set 1 (.int .u8 d.toNat)).oth ho5 (by omega)
  have O5 := (O4.new (by omega) _).trans ho5
  have hb5 := hrd5.hb
  have hat5 := hrd5.ha
  clear hat4
  clear ho5
  have c5_0 := M5.cell 0 _ rfl
  have c5_1 := M5.cell 1 _ rfl
  have c5_2 := M5.cell 2 _ rfl
  have c5_3 := M5.cell 3 _ rfl
  have c5_4 := M5.cell 4 _ rfl
  have f5 := fun i => M5.frozen i
  go_wp2_with fail
  refine (PR.of_some (number_any b (q3 + 1) s 48 48 _ (by exact hrd5) hz hs4 rfl (by decide)) H6.out).mono ?_
  rintro e w6 ⟨rfl, hrd6, ho6⟩
  have L6 := L5.oth ho6 (by omega)
  have M6 := M5.oth ho6 (by omega)
  have O6 := O5.trans ho6
  have hb6 := hrd6.hb
  have hat6 := hrd6.ha
  clear hat5
  clear ho6
  have c6_0 := M6.cell 0 _ rfl
  have c6_1 := M6.cell 1 _ rfl
  have c6_2 := M6.cell 2 _ rfl
  have c6_3 := M6.cell 3 _ rfl
  have c6_4 := M6.cell 4 _ rfl
  have f6 := fun i => M6.frozen i
  go_wp2_with fail
  refine (word_some b (q4) q5 s _ _ (by exact hrd6) hz (by decide) hs5 H7.out).mono ?_
  rintro e w7 ⟨rfl, hrd7, ho7⟩
  have L7 := L6.oth ho7 (by omega)
  have M7 := M6.oth ho7 (by omega)
  have O7 := O6.trans ho7
  have hb7 := hrd7.hb
  have hat7 := hrd7.ha
  clear hat6
  clear ho7
  have c7_0 := M7.cell 0 _ rfl
  have c7_1 := M7.cell 1 _ rfl
  have c7_2 := M7.cell 2 _ rfl
  have c7_3 := M7.cell 3 _ rfl
  have c7_4 := M7.cell 4 _ rfl
  have f7 := fun i => M7.frozen i
  go_wp2_with fail
  refine (PR.of_some (number_any b (q5) s 48 48 _ (by exact hrd7) hz hs6 rfl (by decide)) H8.out).mono ?_
  rintro e w8 ⟨rfl, hrd8, ho8⟩
  have L8 := L7.oth ho8 (by omega)
  have M8 := M7.oth ho8 (by omega)
  have O8 := O7.trans ho8
  have hb8 := hrd8.hb
  have hat8 := hrd8.ha
  clear hat7
  clear ho8
  have c8_0 := M8.cell 0 _ rfl
  have c8_1 := M8.cell 1 _ rfl
  have c8_2 := M8.cell 2 _ rfl
  have c8_3 := M8.cell 3 _ rfl
  have c8_4 := M8.cell 4 _ rfl
  have f8 := fun i => M8.frozen i
  go_wp2_with fail
  refine (word_some b (q6) q7 s _ _ (by exact hrd8) hz (by decide) hs7 H9.out).mono ?_
  rintro e w9 ⟨rfl, hrd9, ho9⟩
  have L9 := L8.oth ho9 (by omega)
  have M9 := M8.oth ho9 (by omega)
  have O9 := O8.trans ho9
  have hb9 := hrd9.hb
  have hat9 := hrd9.ha
  clear hat8
  clear ho9
  have c9_0 := M9.cell 0 _ rfl
  have c9_1 := M9.cell 1 _ rfl
  have c9_2 := M9.cell 2 _ rfl
  have c9_3 := M9.cell 3 _ rfl
  have c9_4 := M9.cell 4 _ rfl
  have f9 := fun i => M9.frozen i
  go_wp2_with (go_at_call 170; refine (fail_any _ _ _ _).mono ?_; rintro e wf ⟨rfl, rfl⟩)
  exact ⟨rfl, ⟨_, _, rfl, by simp [Bad]⟩, O9⟩

set_option maxHeartbeats 1000000 in
theorem step_count_d (b n q1 q2 q3 q4 q5 q6 q7 : Nat) (s : ByteArray) (c d : UInt8) (lo hi : Int) (ahead : Int) (w : World) (h : Rd w b s n) (hz : s.size ≤ 4096) (hn : n ≤ s.size) (ha : (ahead == 8) = false) (h1 : Pat.isB s.data.toList 33 33 n = false) (h2 : Pat.one s.data.toList 65 90 n = some (c, q1)) (h3 : Pat.word s.data.toList (ByteArray.mk #[32]).data.toList q1 = some q2) (h4 : Pat.one s.data.toList 97 122 q2 = some (d, q3)) (h5 : Pat.isB s.data.toList 123 123 q3 = true) (h6 : Pat.number s.data.toList 48 (q3 + 1) = some (lo, q4)) (h7 : Pat.word s.data.toList (ByteArray.mk #[44]).data.toList q4 = some q5) (h8 : Pat.number s.data.toList 48 q5 = some (hi, q6)) (h9 : Pat.word s.data.toList (ByteArray.mk #[125]).data.toList q6 = some q7) (k1 : ¬ lo < 1) (k2 : ¬ hi < lo) (k3 : ¬ 4 < hi) (k4 : (hi == 1) = true) :
    Calls Tryz.prog 252 #[.pointer (some ⟨b, 0, none⟩), .int .i64 ahead] w fun e w' => Fault e ∧ Oth b w w' := by
  have hs0 := hn
  have hs1 := one_sz h2
  have hs2 := word_sz hs1 h3
  have hs3 := one_sz h4
  have hs4 := isB_le h5
  have hbl := number_bd (by decide) h6
  have hs5 : q4 ≤ s.size := by simpa using hbl.2.2
  have hs6 := word_sz hs5 h7
  have hbh := number_bd (by decide) h8
  have hs7 : q6 ≤ s.size := by simpa using hbh.2.2
  have hat : ∀ o, (w.alloc o).cell? ⟨b, 1, none⟩ = some (.int .i64 n) := fun o => (h.alloc o).ha
  have hbb := h.hb
  have H1 := Lib.hid h1
  have H2 := Lib.hid h2
  have H3 := Lib.hid h3
  have H4 := Lib.hid h4
  have H5 := Lib.hid h5
  have H6 := Lib.hid h6
  have H7 := Lib.hid h7
  have H8 := Lib.hid h8
  have H9 := Lib.hid h9
  clear h1 h2 h3 h4 h5 h6 h7 h8 h9
  go_enter Tryz.func252, Tryz.ntmps252
  go_wp2_with fail
  refine (has_is b n n s 33 33 false _ (by exact h.alloc _) hz hn rfl H1.out rfl).mono ?_
  rintro e w1 ⟨rfl, hrd1, ho1⟩
  have L1 := (Lb.new w _ 342).oth ho1 (by omega)
  have O1 := ((Oth.refl b w).alloc _).trans ho1
  have M1 := Lb.new w1 #[.int .u8 0, .int .u8 0, .bool false, .int .i64 1, .int .i64 1] 342
  have hb1 := hrd1.hb
  have z1 := L1.lt
  have hne : ¬ w1.heap.size = w.heap.size := by omega
  have hne1 : ¬ w.heap.size = w1.heap.size := by omega
  go_wp2_with fail
  refine (one_some b (n) q1 s 65 90 c.toNat 65 90 c _ (by exact (hrd1.alloc _)) hz hs0 rfl rfl H2.out rfl).mono ?_
  rintro e w2 ⟨rfl, hrd2, ho2⟩
  have L2 := (L1.alloc (.cells #[.int .u8 0, .int .u8 0, .bool false, .int .i64 1, .int .i64 1] 342)).oth ho2 (by omega)
  have M2 := M1.oth ho2 (by omega)
  have O2 := (O1.alloc _).trans ho2
  have hb2 := hrd2.hb
  have hat2 := hrd2.ha
  clear hat
  clear ho2
  have c2_0 := M2.cell 0 _ rfl
  have c2_1 := M2.cell 1 _ rfl
  have c2_2 := M2.cell 2 _ rfl
  have c2_3 := M2.cell 3 _ rfl
  have c2_4 := M2.cell 4 _ rfl
  have f2 := fun i => M2.frozen i
  go_wp2_with fail
  refine (word_some b (q1) q2 s _ _ (by exact (hrd2.other _ _ (by simp; omega))) hz (by decide) hs1 H3.out).mono ?_
  rintro e w3 ⟨rfl, hrd3, ho3⟩
  have L3 := (L2.other ⟨w1.heap.size, 0, none⟩ (.int .u8 c.toNat) hne1).oth ho3 (by omega)
  have M3 := (M2.set 0 (.int .u8 c.toNat)).oth ho3 (by omega)
  have O3 := (O2.new (by omega) _).trans ho3
  have hb3 := hrd3.hb
  have hat3 := hrd3.ha
  clear hat2
  clear ho3
  have c3_0 := M3.cell 0 _ rfl
  have c3_1 := M3.cell 1 _ rfl
  have c3_2 := M3.cell 2 _ rfl
  have c3_3 := M3.cell 3 _ rfl
  have c3_4 := M3.cell 4 _ rfl
  have f3 := fun i => M3.frozen i
  go_wp2_with fail
  refine (one_some b (q2) q3 s 97 122 d.toNat 97 122 d _ (by exact hrd3) hz hs2 rfl rfl H4.out rfl).mono ?_
  rintro e w4 ⟨rfl, hrd4, ho4⟩
  have L4 := L3.oth ho4 (by omega)
  have M4 := M3.oth ho4 (by omega)
  have O4 := O3.trans ho4
  have hb4 := hrd4.hb
  have hat4 := hrd4.ha
  clear hat3
  clear ho4
  have c4_0 := M4.cell 0 _ rfl
  have c4_1 := M4.cell 1 _ rfl
  have c4_2 := M4.cell 2 _ rfl
  have c4_3 := M4.cell 3 _ rfl
  have c4_4 := M4.cell 4 _ rfl
  have f4 := fun i => M4.frozen i
  have haz := (hrd4.other ⟨w1.heap.size, 1, none⟩ (.int .u8 d.toNat) (by simp; omega)).ha
  go_wp2_with fail
  refine (has_is b q3 (q3 + 1) s 123 123 true _ (by exact (hrd4.other _ _ (by simp; omega))) hz hs3 rfl H5.out rfl).mono ?_
  rintro e w5 ⟨rfl, hrd5, ho5⟩
  have L5 := (L4.other ⟨w1.heap.size, 1, none⟩ (.int .u8 d.toNat) hne1).oth ho5 (by omega)
  have M5 := (M4.set 1 (.int .u8 d.toNat)).oth ho5 (by omega)
  have O5 := (O4.new (by omega) _).trans ho5
  have hb5 := hrd5.hb
  have hat5 := hrd5.ha
  clear hat4
  clear ho5
  have c5_0 := M5.cell 0 _ rfl
  have c5_1 := M5.cell 1 _ rfl
  have c5_2 := M5.cell 2 _ rfl
  have c5_3 := M5.cell 3 _ rfl
  have c5_4 := M5.cell 4 _ rfl
  have f5 := fun i => M5.frozen i
  go_wp2_with fail
  refine (PR.of_some (number_any b (q3 + 1) s 48 48 _ (by exact hrd5) hz hs4 rfl (by decide)) H6.out).mono ?_
  rintro e w6 ⟨rfl, hrd6, ho6⟩
  have L6 := L5.oth ho6 (by omega)
  have M6 := M5.oth ho6 (by omega)
  have O6 := O5.trans ho6
  have hb6 := hrd6.hb
  have hat6 := hrd6.ha
  clear hat5
  clear ho6
  have c6_0 := M6.cell 0 _ rfl
  have c6_1 := M6.cell 1 _ rfl
  have c6_2 := M6.cell 2 _ rfl
  have c6_3 := M6.cell 3 _ rfl
  have c6_4 := M6.cell 4 _ rfl
  have f6 := fun i => M6.frozen i
  go_wp2_with fail
  refine (word_some b (q4) q5 s _ _ (by exact hrd6) hz (by decide) hs5 H7.out).mono ?_
  rintro e w7 ⟨rfl, hrd7, ho7⟩
  have L7 := L6.oth ho7 (by omega)
  have M7 := M6.oth ho7 (by omega)
  have O7 := O6.trans ho7
  have hb7 := hrd7.hb
  have hat7 := hrd7.ha
  clear hat6
  clear ho7
  have c7_0 := M7.cell 0 _ rfl
  have c7_1 := M7.cell 1 _ rfl
  have c7_2 := M7.cell 2 _ rfl
  have c7_3 := M7.cell 3 _ rfl
  have c7_4 := M7.cell 4 _ rfl
  have f7 := fun i => M7.frozen i
  go_wp2_with fail
  refine (PR.of_some (number_any b (q5) s 48 48 _ (by exact hrd7) hz hs6 rfl (by decide)) H8.out).mono ?_
  rintro e w8 ⟨rfl, hrd8, ho8⟩
  have L8 := L7.oth ho8 (by omega)
  have M8 := M7.oth ho8 (by omega)
  have O8 := O7.trans ho8
  have hb8 := hrd8.hb
  have hat8 := hrd8.ha
  clear hat7
  clear ho8
  have c8_0 := M8.cell 0 _ rfl
  have c8_1 := M8.cell 1 _ rfl
  have c8_2 := M8.cell 2 _ rfl
  have c8_3 := M8.cell 3 _ rfl
  have c8_4 := M8.cell 4 _ rfl
  have f8 := fun i => M8.frozen i
  go_wp2_with fail
  refine (word_some b (q6) q7 s _ _ (by exact hrd8) hz (by decide) hs7 H9.out).mono ?_
  rintro e w9 ⟨rfl, hrd9, ho9⟩
  have L9 := L8.oth ho9 (by omega)
  have M9 := M8.oth ho9 (by omega)
  have O9 := O8.trans ho9
  have hb9 := hrd9.hb
  have hat9 := hrd9.ha
  clear hat8
  clear ho9
  have c9_0 := M9.cell 0 _ rfl
  have c9_1 := M9.cell 1 _ rfl
  have c9_2 := M9.cell 2 _ rfl
  have c9_3 := M9.cell 3 _ rfl
  have c9_4 := M9.cell 4 _ rfl
  have f9 := fun i => M9.frozen i
  go_wp2_with (go_at_call 170; refine (fail_any _ _ _ _).mono ?_; rintro e wf ⟨rfl, rfl⟩)
  exact ⟨rfl, ⟨_, _, rfl, by simp [Bad]⟩, O9⟩

set_option maxHeartbeats 1000000 in
theorem step_count (b n q1 q2 q3 q4 q5 q6 q7 : Nat) (s : ByteArray) (c d : UInt8) (lo hi : Int) (ahead : Int) (w : World) (h : Rd w b s n) (hz : s.size ≤ 4096) (hn : n ≤ s.size) (ha : (ahead == 8) = false) (h1 : Pat.isB s.data.toList 33 33 n = false) (h2 : Pat.one s.data.toList 65 90 n = some (c, q1)) (h3 : Pat.word s.data.toList (ByteArray.mk #[32]).data.toList q1 = some q2) (h4 : Pat.one s.data.toList 97 122 q2 = some (d, q3)) (h5 : Pat.isB s.data.toList 123 123 q3 = true) (h6 : Pat.number s.data.toList 48 (q3 + 1) = some (lo, q4)) (h7 : Pat.word s.data.toList (ByteArray.mk #[44]).data.toList q4 = some q5) (h8 : Pat.number s.data.toList 48 q5 = some (hi, q6)) (h9 : Pat.word s.data.toList (ByteArray.mk #[125]).data.toList q6 = some q7) (k1 : ¬ lo < 1) (k2 : ¬ hi < lo) (k3 : ¬ 4 < hi) (k4 : (hi == 1) = false) :
    Calls Tryz.prog 252 #[.pointer (some ⟨b, 0, none⟩), .int .i64 ahead] w fun e w' => e = .returned (encS ⟨c, d, false, lo, hi⟩) ∧ Rd w' b s q7 ∧ Oth b w w' := by
  have hs0 := hn
  have hs1 := one_sz h2
  have hs2 := word_sz hs1 h3
  have hs3 := one_sz h4
  have hs4 := isB_le h5
  have hbl := number_bd (by decide) h6
  have hs5 : q4 ≤ s.size := by simpa using hbl.2.2
  have hs6 := word_sz hs5 h7
  have hbh := number_bd (by decide) h8
  have hs7 : q6 ≤ s.size := by simpa using hbh.2.2
  have hat : ∀ o, (w.alloc o).cell? ⟨b, 1, none⟩ = some (.int .i64 n) := fun o => (h.alloc o).ha
  have hbb := h.hb
  have H1 := Lib.hid h1
  have H2 := Lib.hid h2
  have H3 := Lib.hid h3
  have H4 := Lib.hid h4
  have H5 := Lib.hid h5
  have H6 := Lib.hid h6
  have H7 := Lib.hid h7
  have H8 := Lib.hid h8
  have H9 := Lib.hid h9
  clear h1 h2 h3 h4 h5 h6 h7 h8 h9
  go_enter Tryz.func252, Tryz.ntmps252
  go_wp2_with fail
  refine (has_is b n n s 33 33 false _ (by exact h.alloc _) hz hn rfl H1.out rfl).mono ?_
  rintro e w1 ⟨rfl, hrd1, ho1⟩
  have L1 := (Lb.new w _ 342).oth ho1 (by omega)
  have O1 := ((Oth.refl b w).alloc _).trans ho1
  have M1 := Lb.new w1 #[.int .u8 0, .int .u8 0, .bool false, .int .i64 1, .int .i64 1] 342
  have hb1 := hrd1.hb
  have z1 := L1.lt
  have hne : ¬ w1.heap.size = w.heap.size := by omega
  have hne1 : ¬ w.heap.size = w1.heap.size := by omega
  go_wp2_with fail
  refine (one_some b (n) q1 s 65 90 c.toNat 65 90 c _ (by exact (hrd1.alloc _)) hz hs0 rfl rfl H2.out rfl).mono ?_
  rintro e w2 ⟨rfl, hrd2, ho2⟩
  have L2 := (L1.alloc (.cells #[.int .u8 0, .int .u8 0, .bool false, .int .i64 1, .int .i64 1] 342)).oth ho2 (by omega)
  have M2 := M1.oth ho2 (by omega)
  have O2 := (O1.alloc _).trans ho2
  have hb2 := hrd2.hb
  have hat2 := hrd2.ha
  clear hat
  clear ho2
  have c2_0 := M2.cell 0 _ rfl
  have c2_1 := M2.cell 1 _ rfl
  have c2_2 := M2.cell 2 _ rfl
  have c2_3 := M2.cell 3 _ rfl
  have c2_4 := M2.cell 4 _ rfl
  have f2 := fun i => M2.frozen i
  go_wp2_with fail
  refine (word_some b (q1) q2 s _ _ (by exact (hrd2.other _ _ (by simp; omega))) hz (by decide) hs1 H3.out).mono ?_
  rintro e w3 ⟨rfl, hrd3, ho3⟩
  have L3 := (L2.other ⟨w1.heap.size, 0, none⟩ (.int .u8 c.toNat) hne1).oth ho3 (by omega)
  have M3 := (M2.set 0 (.int .u8 c.toNat)).oth ho3 (by omega)
  have O3 := (O2.new (by omega) _).trans ho3
  have hb3 := hrd3.hb
  have hat3 := hrd3.ha
  clear hat2
  clear ho3
  have c3_0 := M3.cell 0 _ rfl
  have c3_1 := M3.cell 1 _ rfl
  have c3_2 := M3.cell 2 _ rfl
  have c3_3 := M3.cell 3 _ rfl
  have c3_4 := M3.cell 4 _ rfl
  have f3 := fun i => M3.frozen i
  go_wp2_with fail
  refine (one_some b (q2) q3 s 97 122 d.toNat 97 122 d _ (by exact hrd3) hz hs2 rfl rfl H4.out rfl).mono ?_
  rintro e w4 ⟨rfl, hrd4, ho4⟩
  have L4 := L3.oth ho4 (by omega)
  have M4 := M3.oth ho4 (by omega)
  have O4 := O3.trans ho4
  have hb4 := hrd4.hb
  have hat4 := hrd4.ha
  clear hat3
  clear ho4
  have c4_0 := M4.cell 0 _ rfl
  have c4_1 := M4.cell 1 _ rfl
  have c4_2 := M4.cell 2 _ rfl
  have c4_3 := M4.cell 3 _ rfl
  have c4_4 := M4.cell 4 _ rfl
  have f4 := fun i => M4.frozen i
  have haz := (hrd4.other ⟨w1.heap.size, 1, none⟩ (.int .u8 d.toNat) (by simp; omega)).ha
  go_wp2_with fail
  refine (has_is b q3 (q3 + 1) s 123 123 true _ (by exact (hrd4.other _ _ (by simp; omega))) hz hs3 rfl H5.out rfl).mono ?_
  rintro e w5 ⟨rfl, hrd5, ho5⟩
  have L5 := (L4.other ⟨w1.heap.size, 1, none⟩ (.int .u8 d.toNat) hne1).oth ho5 (by omega)
  have M5 := (M4.set 1 (.int .u8 d.toNat)).oth ho5 (by omega)
  have O5 := (O4.new (by omega) _).trans ho5
  have hb5 := hrd5.hb
  have hat5 := hrd5.ha
  clear hat4
  clear ho5
  have c5_0 := M5.cell 0 _ rfl
  have c5_1 := M5.cell 1 _ rfl
  have c5_2 := M5.cell 2 _ rfl
  have c5_3 := M5.cell 3 _ rfl
  have c5_4 := M5.cell 4 _ rfl
  have f5 := fun i => M5.frozen i
  go_wp2_with fail
  refine (PR.of_some (number_any b (q3 + 1) s 48 48 _ (by exact hrd5) hz hs4 rfl (by decide)) H6.out).mono ?_
  rintro e w6 ⟨rfl, hrd6, ho6⟩
  have L6 := L5.oth ho6 (by omega)
  have M6 := M5.oth ho6 (by omega)
  have O6 := O5.trans ho6
  have hb6 := hrd6.hb
  have hat6 := hrd6.ha
  clear hat5
  clear ho6
  have c6_0 := M6.cell 0 _ rfl
  have c6_1 := M6.cell 1 _ rfl
  have c6_2 := M6.cell 2 _ rfl
  have c6_3 := M6.cell 3 _ rfl
  have c6_4 := M6.cell 4 _ rfl
  have f6 := fun i => M6.frozen i
  go_wp2_with fail
  refine (word_some b (q4) q5 s _ _ (by exact hrd6) hz (by decide) hs5 H7.out).mono ?_
  rintro e w7 ⟨rfl, hrd7, ho7⟩
  have L7 := L6.oth ho7 (by omega)
  have M7 := M6.oth ho7 (by omega)
  have O7 := O6.trans ho7
  have hb7 := hrd7.hb
  have hat7 := hrd7.ha
  clear hat6
  clear ho7
  have c7_0 := M7.cell 0 _ rfl
  have c7_1 := M7.cell 1 _ rfl
  have c7_2 := M7.cell 2 _ rfl
  have c7_3 := M7.cell 3 _ rfl
  have c7_4 := M7.cell 4 _ rfl
  have f7 := fun i => M7.frozen i
  go_wp2_with fail
  refine (PR.of_some (number_any b (q5) s 48 48 _ (by exact hrd7) hz hs6 rfl (by decide)) H8.out).mono ?_
  rintro e w8 ⟨rfl, hrd8, ho8⟩
  have L8 := L7.oth ho8 (by omega)
  have M8 := M7.oth ho8 (by omega)
  have O8 := O7.trans ho8
  have hb8 := hrd8.hb
  have hat8 := hrd8.ha
  clear hat7
  clear ho8
  have c8_0 := M8.cell 0 _ rfl
  have c8_1 := M8.cell 1 _ rfl
  have c8_2 := M8.cell 2 _ rfl
  have c8_3 := M8.cell 3 _ rfl
  have c8_4 := M8.cell 4 _ rfl
  have f8 := fun i => M8.frozen i
  go_wp2_with fail
  refine (word_some b (q6) q7 s _ _ (by exact hrd8) hz (by decide) hs7 H9.out).mono ?_
  rintro e w9 ⟨rfl, hrd9, ho9⟩
  have L9 := L8.oth ho9 (by omega)
  have M9 := M8.oth ho9 (by omega)
  have O9 := O8.trans ho9
  have hb9 := hrd9.hb
  have hat9 := hrd9.ha
  clear hat8
  clear ho9
  have c9_0 := M9.cell 0 _ rfl
  have c9_1 := M9.cell 1 _ rfl
  have c9_2 := M9.cell 2 _ rfl
  have c9_3 := M9.cell 3 _ rfl
  have c9_4 := M9.cell 4 _ rfl
  have f9 := fun i => M9.frozen i
  have d9_0 := L9.cell 0 _ rfl
  have d9_1 := L9.cell 1 _ rfl
  have d9_2 := L9.cell 2 _ rfl
  have d9_3 := L9.cell 3 _ rfl
  have d9_4 := L9.cell 4 _ rfl
  have g9 := fun i => L9.frozen i
  go_wp2
  have LF := (((((((L9.other ⟨w1.heap.size, 3, none⟩ (.int .i64 lo) hne1).other ⟨w1.heap.size, 4, none⟩ (.int .i64 hi) hne1).set 0 (.int .u8 c.toNat)).set 1 (.int .u8 d.toNat)).set 2 (.bool false)).set 3 (.int .i64 lo)).set 4 (.int .i64 hi))
  have e0 := LF.cell 0 _ rfl
  have e1 := LF.cell 1 _ rfl
  have e2 := LF.cell 2 _ rfl
  have e3 := LF.cell 3 _ rfl
  have e4 := LF.cell 4 _ rfl
  refine bodyPost_ret (v := encS ⟨c, d, false, lo, hi⟩) (by simp only [results, Tryz.results252]; simp [go_sem, e0, e1, e2, e3, e4, encS]) rfl ⟨rfl, ?_, ?_⟩
  · exact (((((((hrd9.other _ _ (by simp; omega)).other _ _ (by simp; omega)).other _ _ (by simp; omega)).other _ _ (by simp; omega)).other _ _ (by simp; omega)).other _ _ (by simp; omega)).other _ _ (by simp; omega))
  · exact (((((((O9.new (by omega) _).new (by omega) _).new (by omega) _).new (by omega) _).new (by omega) _).new (by omega) _).new (by omega) _)

end Go.Proofs.YthbiiccblcoogaaGreatDoor
