/- The program's reader of patterns: cond. (Printed by wip/tools/gencond.py.) -/
import Derived.Test.YthbiiccblcoogaaGreatDoorPatF
set_option linter.unusedVariables false
set_option linter.unusedSimpArgs false
namespace Go.Proofs.YthbiiccblcoogaaGreatDoor
open Go.RowKit

theorem pk_is {s : ByteArray} {lo hi : UInt8} {n : Nat} (h : Pat.isB s.data.toList lo hi n = true) : (lo.toNat : Int) ≤ pk s n ∧ pk s n ≤ hi.toNat ∧ n + 1 ≤ s.size := by
  have hl := isB_le h
  have hlt : n < s.size := by omega
  unfold Pat.isB at h
  rw [get_byte hlt] at h
  simp only [decide_eq_true_eq] at h
  have h1 := UInt8.le_iff_toNat_le.1 h.1
  have h2 := UInt8.le_iff_toNat_le.1 h.2
  unfold pk
  rw [dif_pos hlt]
  omega
theorem pk_not {s : ByteArray} {lo hi : UInt8} {n : Nat} (h : Pat.isB s.data.toList lo hi n = false) (hlo : 1 ≤ lo.toNat) : pk s n < lo.toNat ∨ (hi.toNat : Int) < pk s n := by
  unfold pk
  by_cases hlt : n < s.size
  · unfold Pat.isB at h
    rw [get_byte hlt] at h
    rw [dif_pos hlt]
    simp only [decide_eq_false_iff_not] at h
    have h1 : ¬ (lo.toNat ≤ (s[n]'hlt).toNat ∧ (s[n]'hlt).toNat ≤ hi.toNat) := fun hh => h ⟨UInt8.le_iff_toNat_le.2 hh.1, UInt8.le_iff_toNat_le.2 hh.2⟩
    omega
  · rw [dif_neg hlt]; omega

set_option maxHeartbeats 1000000 in
theorem cond_many_bad (b n : Nat) (s : ByteArray) (ahead : Int) (w : World) (h : Rd w b s n) (hz : s.size ≤ 4096) (hn : n ≤ s.size) (ha : (ahead == 16) = true) (h1 : Pat.one s.data.toList 97 122 n = none) :
    Calls Tryz.prog 254 #[.pointer (some ⟨b, 0, none⟩), .int .i64 ahead] w fun e w' => Fault e ∧ Oth b w w' := by
  have hat : ∀ o, (w.alloc o).cell? ⟨b, 1, none⟩ = some (.int .i64 n) := fun o => (h.alloc o).ha
  have hbb := h.hb
  have H1 := Lib.hid h1
  clear h1
  go_enter Tryz.func254, Tryz.ntmps254
  go_wp2_with fail
  refine (one_none b n s 97 122 97 122 _ (by exact h.alloc _) hz hn rfl rfl H1.out).mono ?_
  rintro e w1 ⟨⟨a, c, rfl, hb⟩, ho1⟩
  exact ⟨rfl, ⟨_, _, rfl, hb⟩, ((Oth.refl b w).alloc _).trans ho1⟩

set_option maxHeartbeats 1000000 in
theorem cond_many (b n q1 : Nat) (s : ByteArray) (c : UInt8) (ahead : Int) (w : World) (h : Rd w b s n) (hz : s.size ≤ 4096) (hn : n ≤ s.size) (ha : (ahead == 16) = true) (h1 : Pat.one s.data.toList 97 122 n = some (c, q1)) :
    Calls Tryz.prog 254 #[.pointer (some ⟨b, 0, none⟩), .int .i64 ahead] w fun e w' => Fault e ∧ Oth b w w' := by
  have hat : ∀ o, (w.alloc o).cell? ⟨b, 1, none⟩ = some (.int .i64 n) := fun o => (h.alloc o).ha
  have hbb := h.hb
  have H1 := Lib.hid h1
  clear h1
  go_enter Tryz.func254, Tryz.ntmps254
  go_wp2_with fail
  refine (one_some b n q1 s 97 122 c.toNat 97 122 c _ (by exact h.alloc _) hz hn rfl rfl H1.out rfl).mono ?_
  rintro e w1 ⟨rfl, hrd1, ho1⟩
  have L1 := (Lb.new w _ 350).oth ho1 (by omega)
  have O1 := ((Oth.refl b w).alloc _).trans ho1
  go_wp2_with (go_at_call 170; refine (fail_any _ _ _ _).mono ?_; rintro e w2 ⟨rfl, rfl⟩)
  exact ⟨rfl, ⟨_, _, rfl, by simp [Bad]⟩, O1⟩

set_option maxHeartbeats 1000000 in
theorem cond_left_bad (b n : Nat) (s : ByteArray) (ahead : Int) (w : World) (h : Rd w b s n) (hz : s.size ≤ 4096) (hn : n ≤ s.size) (ha : (ahead == 16) = false) (h1 : Pat.one s.data.toList 97 122 n = none) :
    Calls Tryz.prog 254 #[.pointer (some ⟨b, 0, none⟩), .int .i64 ahead] w fun e w' => Fault e ∧ Oth b w w' := by
  have hat : ∀ o, (w.alloc o).cell? ⟨b, 1, none⟩ = some (.int .i64 n) := fun o => (h.alloc o).ha
  have hbb := h.hb
  have H1 := Lib.hid h1
  clear h1
  go_enter Tryz.func254, Tryz.ntmps254
  go_wp2_with fail
  refine (one_none b n s 97 122 97 122 _ (by exact h.alloc _) hz hn rfl rfl H1.out).mono ?_
  rintro e w1 ⟨⟨a, c, rfl, hb⟩, ho1⟩
  exact ⟨rfl, ⟨_, _, rfl, hb⟩, ((Oth.refl b w).alloc _).trans ho1⟩

set_option maxHeartbeats 1000000 in
theorem cond_op_bad (b n q1 : Nat) (s : ByteArray) (c : UInt8) (ahead : Int) (w : World) (h : Rd w b s n) (hz : s.size ≤ 4096) (hn : n ≤ s.size) (ha : (ahead == 16) = false) (h1 : Pat.one s.data.toList 97 122 n = some (c, q1)) (h2 : Pat.op s.data.toList q1 = none) :
    Calls Tryz.prog 254 #[.pointer (some ⟨b, 0, none⟩), .int .i64 ahead] w fun e w' => Fault e ∧ Oth b w w' := by
  have hs1 := one_sz h1
  have hat : ∀ o, (w.alloc o).cell? ⟨b, 1, none⟩ = some (.int .i64 n) := fun o => (h.alloc o).ha
  have hbb := h.hb
  have H1 := Lib.hid h1
  have H2 := Lib.hid h2
  clear h1 h2
  go_enter Tryz.func254, Tryz.ntmps254
  go_wp2_with fail
  refine (one_some b n q1 s 97 122 c.toNat 97 122 c _ (by exact h.alloc _) hz hn rfl rfl H1.out rfl).mono ?_
  rintro e w1 ⟨rfl, hrd1, ho1⟩
  have L1 := (Lb.new w _ 350).oth ho1 (by omega)
  have O1 := ((Oth.refl b w).alloc _).trans ho1
  go_wp2_with fail
  refine (PR.of_none (op_any b q1 s _ (by exact hrd1) hz hs1) H2.out).mono ?_
  rintro e w2 ⟨⟨a, c, rfl, hb⟩, ho2⟩
  exact ⟨rfl, ⟨_, _, rfl, hb⟩, O1.trans ho2⟩

set_option maxHeartbeats 1000000 in
theorem cond_minus (b n q1 q2 q3 : Nat) (s : ByteArray) (c : UInt8) (o v : Int) (ahead : Int) (w : World) (h : Rd w b s n) (hz : s.size ≤ 4096) (hn : n ≤ s.size) (ha : (ahead == 16) = false) (h1 : Pat.one s.data.toList 97 122 n = some (c, q1)) (h2 : Pat.op s.data.toList q1 = some (o, q2)) (C : Int) (h3 : pk s q2 = C) (hC : C = 45) (hn3 : q2 + 1 ≤ s.size) (h4 : Pat.number s.data.toList 49 (q2 + 1) = some (v, q3)) :
    Calls Tryz.prog 254 #[.pointer (some ⟨b, 0, none⟩), .int .i64 ahead] w fun e w' => e = .returned (encC ⟨c, o, 0, -v⟩) ∧ Rd w' b s q3 ∧ Oth b w w' := by
  subst hC
  have hs1 := one_sz h1
  have hs2 := (op_sz hs1 h2).1
  have hbv := number_bd (by decide) h4
  have hat : ∀ o, (w.alloc o).cell? ⟨b, 1, none⟩ = some (.int .i64 n) := fun o => (h.alloc o).ha
  have hbb := h.hb
  have H1 := Lib.hid h1
  have H2 := Lib.hid h2
  have H3 := Lib.hid h3
  have H4 := Lib.hid h4
  clear h1 h2 h3 h4
  go_enter Tryz.func254, Tryz.ntmps254
  go_wp2_with fail
  refine (one_some b n q1 s 97 122 c.toNat 97 122 c _ (by exact h.alloc _) hz hn rfl rfl H1.out rfl).mono ?_
  rintro e w1 ⟨rfl, hrd1, ho1⟩
  have L1 := (Lb.new w _ 350).oth ho1 (by omega)
  have O1 := ((Oth.refl b w).alloc _).trans ho1
  go_wp2_with fail
  refine (PR.of_some (op_any b q1 s _ (by exact hrd1) hz hs1) H2.out).mono ?_
  rintro e w2 ⟨rfl, hrd2, ho2⟩
  have L2 := L1.oth ho2 (by omega)
  have O2 := O1.trans ho2
  have M2 := Lb.new w2 #[.int .u8 c.toNat, .int .i64 o, .int .u8 0, .int .i64 0] 350
  have hao : ∀ ob k, ((w2.alloc ob).drewN k).cell? ⟨b, 1, none⟩ = some (.int .i64 q2) := fun ob _ => (hrd2.alloc ob).ha
  have hfo : ∀ ob k, ((w2.alloc ob).drewN k).frozen? ⟨b, 1, none⟩ = false := fun ob _ => (hrd2.alloc ob).hf
  have hb2 := hrd2.hb
  have z2 := L2.lt
  have hne : ¬ w2.heap.size = w.heap.size := by omega
  have hne1 : ¬ w.heap.size = w2.heap.size := by omega
  go_wp2_with fail
  refine (peek_any b q2 s _ (by exact hrd2.alloc _) hz hs2 45 H3.out).mono ?_
  rintro e w3 ⟨rfl, k3, rfl⟩
  go_wp2_with fail
  refine (PR.of_some (number_any b (q2 + 1) s 49 49 _ (by exact (((hrd2.alloc _).drewN _).set' _ _ (by simp))) hz hn3 rfl (by decide)) H4.out).mono ?_
  rintro e w4 ⟨rfl, hrd4, ho4⟩
  have L4 := (((L2.alloc (.cells #[.int .u8 c.toNat, .int .i64 o, .int .u8 0, .int .i64 0] 350)).drewN k3).other ⟨b, 1, none⟩ (.int .i64 ((q2 : Int) + 1)) (by simp; omega)).oth ho4 (by omega)
  have M4 := ((M2.drewN k3).other ⟨b, 1, none⟩ (.int .i64 ((q2 : Int) + 1)) (by simp; omega)).oth ho4 (by omega)
  have O4 := (((O2.alloc _).drewN _).setCell _ _).trans ho4
  have hb4 := hrd4.hb
  clear hat hao hfo
  clear ho4
  have c4_0 := M4.cell 0 _ rfl
  have c4_1 := M4.cell 1 _ rfl
  have c4_2 := M4.cell 2 _ rfl
  have c4_3 := M4.cell 3 _ rfl
  have f4 := fun i => M4.frozen i
  have d4_0 := L4.cell 0 _ rfl
  have d4_1 := L4.cell 1 _ rfl
  have d4_2 := L4.cell 2 _ rfl
  have d4_3 := L4.cell 3 _ rfl
  have g4 := fun i => L4.frozen i
  go_wp2
  have LF := (((((L4.other ⟨w2.heap.size, 3, none⟩ (.int .i64 (-v)) hne1).set 0 (.int .u8 c.toNat)).set 1 (.int .i64 o)).set 2 (.int .u8 0)).set 3 (.int .i64 (-v)))
  have e0 := LF.cell 0 _ rfl
  have e1 := LF.cell 1 _ rfl
  have e2 := LF.cell 2 _ rfl
  have e3 := LF.cell 3 _ rfl
  refine bodyPost_ret (v := encC ⟨c, o, 0, -v⟩) (by simp only [results, Tryz.results254]; simp [go_sem, e0, e1, e2, e3, encC]) rfl ⟨rfl, ?_, ?_⟩
  · exact (((((hrd4.other _ _ (by simp; omega)).other _ _ (by simp; omega)).other _ _ (by simp; omega)).other _ _ (by simp; omega)).other _ _ (by simp; omega))
  · exact (((((O4.new (by omega) _).new (by omega) _).new (by omega) _).new (by omega) _).new (by omega) _)

set_option maxHeartbeats 1000000 in
theorem cond_minus_bad (b n q1 q2 : Nat) (s : ByteArray) (c : UInt8) (o : Int) (ahead : Int) (w : World) (h : Rd w b s n) (hz : s.size ≤ 4096) (hn : n ≤ s.size) (ha : (ahead == 16) = false) (h1 : Pat.one s.data.toList 97 122 n = some (c, q1)) (h2 : Pat.op s.data.toList q1 = some (o, q2)) (C : Int) (h3 : pk s q2 = C) (hC : C = 45) (hn3 : q2 + 1 ≤ s.size) (h4 : Pat.number s.data.toList 49 (q2 + 1) = none) :
    Calls Tryz.prog 254 #[.pointer (some ⟨b, 0, none⟩), .int .i64 ahead] w fun e w' => Fault e ∧ Oth b w w' := by
  subst hC
  have hs1 := one_sz h1
  have hs2 := (op_sz hs1 h2).1
  have hat : ∀ o, (w.alloc o).cell? ⟨b, 1, none⟩ = some (.int .i64 n) := fun o => (h.alloc o).ha
  have hbb := h.hb
  have H1 := Lib.hid h1
  have H2 := Lib.hid h2
  have H3 := Lib.hid h3
  have H4 := Lib.hid h4
  clear h1 h2 h3 h4
  go_enter Tryz.func254, Tryz.ntmps254
  go_wp2_with fail
  refine (one_some b n q1 s 97 122 c.toNat 97 122 c _ (by exact h.alloc _) hz hn rfl rfl H1.out rfl).mono ?_
  rintro e w1 ⟨rfl, hrd1, ho1⟩
  have L1 := (Lb.new w _ 350).oth ho1 (by omega)
  have O1 := ((Oth.refl b w).alloc _).trans ho1
  go_wp2_with fail
  refine (PR.of_some (op_any b q1 s _ (by exact hrd1) hz hs1) H2.out).mono ?_
  rintro e w2 ⟨rfl, hrd2, ho2⟩
  have L2 := L1.oth ho2 (by omega)
  have O2 := O1.trans ho2
  have M2 := Lb.new w2 #[.int .u8 c.toNat, .int .i64 o, .int .u8 0, .int .i64 0] 350
  have hao : ∀ ob k, ((w2.alloc ob).drewN k).cell? ⟨b, 1, none⟩ = some (.int .i64 q2) := fun ob _ => (hrd2.alloc ob).ha
  have hfo : ∀ ob k, ((w2.alloc ob).drewN k).frozen? ⟨b, 1, none⟩ = false := fun ob _ => (hrd2.alloc ob).hf
  have hb2 := hrd2.hb
  have z2 := L2.lt
  have hne : ¬ w2.heap.size = w.heap.size := by omega
  have hne1 : ¬ w.heap.size = w2.heap.size := by omega
  go_wp2_with fail
  refine (peek_any b q2 s _ (by exact hrd2.alloc _) hz hs2 45 H3.out).mono ?_
  rintro e w3 ⟨rfl, k3, rfl⟩
  go_wp2_with fail
  refine (PR.of_none (number_any b (q2 + 1) s 49 49 _ (by exact (((hrd2.alloc _).drewN _).set' _ _ (by simp))) hz hn3 rfl (by decide)) H4.out).mono ?_
  rintro e w4 ⟨⟨a, c, rfl, hb⟩, ho4⟩
  exact ⟨rfl, ⟨_, _, rfl, hb⟩, (((O2.alloc _).drewN _).setCell _ _).trans ho4⟩

set_option maxHeartbeats 1000000 in
theorem cond_digit (b n q1 q2 q3 : Nat) (s : ByteArray) (c : UInt8) (o v : Int) (ahead : Int) (w : World) (h : Rd w b s n) (hz : s.size ≤ 4096) (hn : n ≤ s.size) (ha : (ahead == 16) = false) (h1 : Pat.one s.data.toList 97 122 n = some (c, q1)) (h2 : Pat.op s.data.toList q1 = some (o, q2)) (C : Int) (h3 : pk s q2 = C) (hC : (C == 45) = false) (hC1 : 48 ≤ C) (hC2 : C ≤ 57) (h4 : Pat.number s.data.toList 48 q2 = some (v, q3)) :
    Calls Tryz.prog 254 #[.pointer (some ⟨b, 0, none⟩), .int .i64 ahead] w fun e w' => e = .returned (encC ⟨c, o, 0, v⟩) ∧ Rd w' b s q3 ∧ Oth b w w' := by
  have hs1 := one_sz h1
  have hs2 := (op_sz hs1 h2).1
  have hbv := number_bd (by decide) h4
  have hat : ∀ o, (w.alloc o).cell? ⟨b, 1, none⟩ = some (.int .i64 n) := fun o => (h.alloc o).ha
  have hbb := h.hb
  have H1 := Lib.hid h1
  have H2 := Lib.hid h2
  have H3 := Lib.hid h3
  have H4 := Lib.hid h4
  clear h1 h2 h3 h4
  go_enter Tryz.func254, Tryz.ntmps254
  go_wp2_with fail
  refine (one_some b n q1 s 97 122 c.toNat 97 122 c _ (by exact h.alloc _) hz hn rfl rfl H1.out rfl).mono ?_
  rintro e w1 ⟨rfl, hrd1, ho1⟩
  have L1 := (Lb.new w _ 350).oth ho1 (by omega)
  have O1 := ((Oth.refl b w).alloc _).trans ho1
  go_wp2_with fail
  refine (PR.of_some (op_any b q1 s _ (by exact hrd1) hz hs1) H2.out).mono ?_
  rintro e w2 ⟨rfl, hrd2, ho2⟩
  have L2 := L1.oth ho2 (by omega)
  have O2 := O1.trans ho2
  have M2 := Lb.new w2 #[.int .u8 c.toNat, .int .i64 o, .int .u8 0, .int .i64 0] 350
  have hao : ∀ ob k, ((w2.alloc ob).drewN k).cell? ⟨b, 1, none⟩ = some (.int .i64 q2) := fun ob _ => (hrd2.alloc ob).ha
  have hfo : ∀ ob k, ((w2.alloc ob).drewN k).frozen? ⟨b, 1, none⟩ = false := fun ob _ => (hrd2.alloc ob).hf
  have hb2 := hrd2.hb
  have z2 := L2.lt
  have hne : ¬ w2.heap.size = w.heap.size := by omega
  have hne1 : ¬ w.heap.size = w2.heap.size := by omega
  go_wp2_with fail
  refine (peek_any b q2 s _ (by exact hrd2.alloc _) hz hs2 C H3.out).mono ?_
  rintro e w3 ⟨rfl, k3, rfl⟩
  go_wp2_with fail
  refine (PR.of_some (number_any b (q2) s 48 48 _ (by exact ((hrd2.alloc _).drewN _)) hz hs2 rfl (by decide)) H4.out).mono ?_
  rintro e w4 ⟨rfl, hrd4, ho4⟩
  have L4 := ((L2.alloc (.cells #[.int .u8 c.toNat, .int .i64 o, .int .u8 0, .int .i64 0] 350)).drewN k3).oth ho4 (by omega)
  have M4 := (M2.drewN k3).oth ho4 (by omega)
  have O4 := ((O2.alloc _).drewN _).trans ho4
  have hb4 := hrd4.hb
  clear hat hao hfo
  clear ho4
  have c4_0 := M4.cell 0 _ rfl
  have c4_1 := M4.cell 1 _ rfl
  have c4_2 := M4.cell 2 _ rfl
  have c4_3 := M4.cell 3 _ rfl
  have f4 := fun i => M4.frozen i
  have d4_0 := L4.cell 0 _ rfl
  have d4_1 := L4.cell 1 _ rfl
  have d4_2 := L4.cell 2 _ rfl
  have d4_3 := L4.cell 3 _ rfl
  have g4 := fun i => L4.frozen i
  go_wp2
  have LF := (((((L4.other ⟨w2.heap.size, 3, none⟩ (.int .i64 v) hne1).set 0 (.int .u8 c.toNat)).set 1 (.int .i64 o)).set 2 (.int .u8 0)).set 3 (.int .i64 v))
  have e0 := LF.cell 0 _ rfl
  have e1 := LF.cell 1 _ rfl
  have e2 := LF.cell 2 _ rfl
  have e3 := LF.cell 3 _ rfl
  refine bodyPost_ret (v := encC ⟨c, o, 0, v⟩) (by simp only [results, Tryz.results254]; simp [go_sem, e0, e1, e2, e3, encC]) rfl ⟨rfl, ?_, ?_⟩
  · exact (((((hrd4.other _ _ (by simp; omega)).other _ _ (by simp; omega)).other _ _ (by simp; omega)).other _ _ (by simp; omega)).other _ _ (by simp; omega))
  · exact (((((O4.new (by omega) _).new (by omega) _).new (by omega) _).new (by omega) _).new (by omega) _)

set_option maxHeartbeats 1000000 in
theorem cond_digit_bad (b n q1 q2 : Nat) (s : ByteArray) (c : UInt8) (o : Int) (ahead : Int) (w : World) (h : Rd w b s n) (hz : s.size ≤ 4096) (hn : n ≤ s.size) (ha : (ahead == 16) = false) (h1 : Pat.one s.data.toList 97 122 n = some (c, q1)) (h2 : Pat.op s.data.toList q1 = some (o, q2)) (C : Int) (h3 : pk s q2 = C) (hC : (C == 45) = false) (hC1 : 48 ≤ C) (hC2 : C ≤ 57) (h4 : Pat.number s.data.toList 48 q2 = none) :
    Calls Tryz.prog 254 #[.pointer (some ⟨b, 0, none⟩), .int .i64 ahead] w fun e w' => Fault e ∧ Oth b w w' := by
  have hs1 := one_sz h1
  have hs2 := (op_sz hs1 h2).1
  have hat : ∀ o, (w.alloc o).cell? ⟨b, 1, none⟩ = some (.int .i64 n) := fun o => (h.alloc o).ha
  have hbb := h.hb
  have H1 := Lib.hid h1
  have H2 := Lib.hid h2
  have H3 := Lib.hid h3
  have H4 := Lib.hid h4
  clear h1 h2 h3 h4
  go_enter Tryz.func254, Tryz.ntmps254
  go_wp2_with fail
  refine (one_some b n q1 s 97 122 c.toNat 97 122 c _ (by exact h.alloc _) hz hn rfl rfl H1.out rfl).mono ?_
  rintro e w1 ⟨rfl, hrd1, ho1⟩
  have L1 := (Lb.new w _ 350).oth ho1 (by omega)
  have O1 := ((Oth.refl b w).alloc _).trans ho1
  go_wp2_with fail
  refine (PR.of_some (op_any b q1 s _ (by exact hrd1) hz hs1) H2.out).mono ?_
  rintro e w2 ⟨rfl, hrd2, ho2⟩
  have L2 := L1.oth ho2 (by omega)
  have O2 := O1.trans ho2
  have M2 := Lb.new w2 #[.int .u8 c.toNat, .int .i64 o, .int .u8 0, .int .i64 0] 350
  have hao : ∀ ob k, ((w2.alloc ob).drewN k).cell? ⟨b, 1, none⟩ = some (.int .i64 q2) := fun ob _ => (hrd2.alloc ob).ha
  have hfo : ∀ ob k, ((w2.alloc ob).drewN k).frozen? ⟨b, 1, none⟩ = false := fun ob _ => (hrd2.alloc ob).hf
  have hb2 := hrd2.hb
  have z2 := L2.lt
  have hne : ¬ w2.heap.size = w.heap.size := by omega
  have hne1 : ¬ w.heap.size = w2.heap.size := by omega
  go_wp2_with fail
  refine (peek_any b q2 s _ (by exact hrd2.alloc _) hz hs2 C H3.out).mono ?_
  rintro e w3 ⟨rfl, k3, rfl⟩
  go_wp2_with fail
  refine (PR.of_none (number_any b (q2) s 48 48 _ (by exact ((hrd2.alloc _).drewN _)) hz hs2 rfl (by decide)) H4.out).mono ?_
  rintro e w4 ⟨⟨a, c, rfl, hb⟩, ho4⟩
  exact ⟨rfl, ⟨_, _, rfl, hb⟩, ((O2.alloc _).drewN _).trans ho4⟩

set_option maxHeartbeats 1000000 in
theorem cond_right_bad_lo (b n q1 q2 : Nat) (s : ByteArray) (c : UInt8) (o : Int) (ahead : Int) (w : World) (h : Rd w b s n) (hz : s.size ≤ 4096) (hn : n ≤ s.size) (ha : (ahead == 16) = false) (h1 : Pat.one s.data.toList 97 122 n = some (c, q1)) (h2 : Pat.op s.data.toList q1 = some (o, q2)) (C : Int) (h3 : pk s q2 = C) (hC : (C == 45) = false) (hC1 : ¬ 48 ≤ C) (h4 : Pat.one s.data.toList 97 122 q2 = none) :
    Calls Tryz.prog 254 #[.pointer (some ⟨b, 0, none⟩), .int .i64 ahead] w fun e w' => Fault e ∧ Oth b w w' := by
  have hs1 := one_sz h1
  have hs2 := (op_sz hs1 h2).1
  have hat : ∀ o, (w.alloc o).cell? ⟨b, 1, none⟩ = some (.int .i64 n) := fun o => (h.alloc o).ha
  have hbb := h.hb
  have H1 := Lib.hid h1
  have H2 := Lib.hid h2
  have H3 := Lib.hid h3
  have H4 := Lib.hid h4
  clear h1 h2 h3 h4
  go_enter Tryz.func254, Tryz.ntmps254
  go_wp2_with fail
  refine (one_some b n q1 s 97 122 c.toNat 97 122 c _ (by exact h.alloc _) hz hn rfl rfl H1.out rfl).mono ?_
  rintro e w1 ⟨rfl, hrd1, ho1⟩
  have L1 := (Lb.new w _ 350).oth ho1 (by omega)
  have O1 := ((Oth.refl b w).alloc _).trans ho1
  go_wp2_with fail
  refine (PR.of_some (op_any b q1 s _ (by exact hrd1) hz hs1) H2.out).mono ?_
  rintro e w2 ⟨rfl, hrd2, ho2⟩
  have L2 := L1.oth ho2 (by omega)
  have O2 := O1.trans ho2
  have M2 := Lb.new w2 #[.int .u8 c.toNat, .int .i64 o, .int .u8 0, .int .i64 0] 350
  have hao : ∀ ob k, ((w2.alloc ob).drewN k).cell? ⟨b, 1, none⟩ = some (.int .i64 q2) := fun ob _ => (hrd2.alloc ob).ha
  have hfo : ∀ ob k, ((w2.alloc ob).drewN k).frozen? ⟨b, 1, none⟩ = false := fun ob _ => (hrd2.alloc ob).hf
  have hb2 := hrd2.hb
  have z2 := L2.lt
  have hne : ¬ w2.heap.size = w.heap.size := by omega
  have hne1 : ¬ w.heap.size = w2.heap.size := by omega
  go_wp2_with fail
  refine (peek_any b q2 s _ (by exact hrd2.alloc _) hz hs2 C H3.out).mono ?_
  rintro e w3 ⟨rfl, k3, rfl⟩
  go_wp2_with fail
  refine (one_none b q2 s 97 122 97 122 _ (by exact ((hrd2.alloc _).drewN _)) hz hs2 rfl rfl H4.out).mono ?_
  rintro e w4 ⟨⟨a, c, rfl, hb⟩, ho4⟩
  exact ⟨rfl, ⟨_, _, rfl, hb⟩, ((O2.alloc _).drewN _).trans ho4⟩

set_option maxHeartbeats 1000000 in
theorem cond_plus_lo (b n q1 q2 q3 q4 : Nat) (s : ByteArray) (c d : UInt8) (o v : Int) (ahead : Int) (w : World) (h : Rd w b s n) (hz : s.size ≤ 4096) (hn : n ≤ s.size) (ha : (ahead == 16) = false) (h1 : Pat.one s.data.toList 97 122 n = some (c, q1)) (h2 : Pat.op s.data.toList q1 = some (o, q2)) (C : Int) (h3 : pk s q2 = C) (hC : (C == 45) = false) (hC1 : ¬ 48 ≤ C) (h4 : Pat.one s.data.toList 97 122 q2 = some (d, q3)) (h5 : Pat.isB s.data.toList 43 43 q3 = true) (h7 : Pat.number s.data.toList 49 (q3 + 1) = some (v, q4)) :
    Calls Tryz.prog 254 #[.pointer (some ⟨b, 0, none⟩), .int .i64 ahead] w fun e w' => e = .returned (encC ⟨c, o, d, v⟩) ∧ Rd w' b s q4 ∧ Oth b w w' := by
  have hs1 := one_sz h1
  have hs2 := (op_sz hs1 h2).1
  have hs3 := one_sz h4
  have hs4 := isB_le h5
  have hbv := number_bd (by decide) h7
  have hat : ∀ o, (w.alloc o).cell? ⟨b, 1, none⟩ = some (.int .i64 n) := fun o => (h.alloc o).ha
  have hbb := h.hb
  have H1 := Lib.hid h1
  have H2 := Lib.hid h2
  have H3 := Lib.hid h3
  have H4 := Lib.hid h4
  have H5 := Lib.hid h5
  have H7 := Lib.hid h7
  clear h1 h2 h3 h4 h5 h7
  go_enter Tryz.func254, Tryz.ntmps254
  go_wp2_with fail
  refine (one_some b n q1 s 97 122 c.toNat 97 122 c _ (by exact h.alloc _) hz hn rfl rfl H1.out rfl).mono ?_
  rintro e w1 ⟨rfl, hrd1, ho1⟩
  have L1 := (Lb.new w _ 350).oth ho1 (by omega)
  have O1 := ((Oth.refl b w).alloc _).trans ho1
  go_wp2_with fail
  refine (PR.of_some (op_any b q1 s _ (by exact hrd1) hz hs1) H2.out).mono ?_
  rintro e w2 ⟨rfl, hrd2, ho2⟩
  have L2 := L1.oth ho2 (by omega)
  have O2 := O1.trans ho2
  have M2 := Lb.new w2 #[.int .u8 c.toNat, .int .i64 o, .int .u8 0, .int .i64 0] 350
  have hao : ∀ ob k, ((w2.alloc ob).drewN k).cell? ⟨b, 1, none⟩ = some (.int .i64 q2) := fun ob _ => (hrd2.alloc ob).ha
  have hfo : ∀ ob k, ((w2.alloc ob).drewN k).frozen? ⟨b, 1, none⟩ = false := fun ob _ => (hrd2.alloc ob).hf
  have hb2 := hrd2.hb
  have z2 := L2.lt
  have hne : ¬ w2.heap.size = w.heap.size := by omega
  have hne1 : ¬ w.heap.size = w2.heap.size := by omega
  go_wp2_with fail
  refine (peek_any b q2 s _ (by exact hrd2.alloc _) hz hs2 C H3.out).mono ?_
  rintro e w3 ⟨rfl, k3, rfl⟩
  go_wp2_with fail
  refine (one_some b q2 q3 s 97 122 d.toNat 97 122 d _ (by exact ((hrd2.alloc _).drewN _)) hz hs2 rfl rfl H4.out rfl).mono ?_
  rintro e w4 ⟨rfl, hrd4, ho4⟩
  have L4 := ((L2.alloc (.cells #[.int .u8 c.toNat, .int .i64 o, .int .u8 0, .int .i64 0] 350)).drewN k3).oth ho4 (by omega)
  have M4 := (M2.drewN k3).oth ho4 (by omega)
  have O4 := ((O2.alloc _).drewN _).trans ho4
  have hb4 := hrd4.hb
  clear hat hao hfo
  clear ho4
  have c4_0 := M4.cell 0 _ rfl
  have c4_1 := M4.cell 1 _ rfl
  have c4_2 := M4.cell 2 _ rfl
  have c4_3 := M4.cell 3 _ rfl
  have f4 := fun i => M4.frozen i
  go_wp2_with fail
  refine (has_is b q3 (q3 + 1) s 43 43 true _ (by exact (hrd4.other _ _ (by simp; omega))) hz hs3 rfl H5.out rfl).mono ?_
  rintro e w5 ⟨rfl, hrd5, ho5⟩
  have L5 := (L4.other ⟨w2.heap.size, 2, none⟩ (.int .u8 d.toNat) hne1).oth ho5 (by omega)
  have M5 := (M4.set 2 (.int .u8 d.toNat)).oth ho5 (by omega)
  have O5 := (O4.new (by omega) _).trans ho5
  have hb5 := hrd5.hb
  clear ho5
  have c5_0 := M5.cell 0 _ rfl
  have c5_1 := M5.cell 1 _ rfl
  have c5_2 := M5.cell 2 _ rfl
  have c5_3 := M5.cell 3 _ rfl
  have f5 := fun i => M5.frozen i
  go_wp2_with fail
  refine (PR.of_some (number_any b (q3 + 1) s 49 49 _ (by exact hrd5) hz hs4 rfl (by decide)) H7.out).mono ?_
  rintro e w6 ⟨rfl, hrd6, ho6⟩
  have L6 := L5.oth ho6 (by omega)
  have M6 := M5.oth ho6 (by omega)
  have O6 := O5.trans ho6
  have hb6 := hrd6.hb
  clear ho6
  have c6_0 := M6.cell 0 _ rfl
  have c6_1 := M6.cell 1 _ rfl
  have c6_2 := M6.cell 2 _ rfl
  have c6_3 := M6.cell 3 _ rfl
  have f6 := fun i => M6.frozen i
  have d6_0 := L6.cell 0 _ rfl
  have d6_1 := L6.cell 1 _ rfl
  have d6_2 := L6.cell 2 _ rfl
  have d6_3 := L6.cell 3 _ rfl
  have g6 := fun i => L6.frozen i
  go_wp2
  have LF := (((((L6.other ⟨w2.heap.size, 3, none⟩ (.int .i64 v) hne1).set 0 (.int .u8 c.toNat)).set 1 (.int .i64 o)).set 2 (.int .u8 d.toNat)).set 3 (.int .i64 v))
  have e0 := LF.cell 0 _ rfl
  have e1 := LF.cell 1 _ rfl
  have e2 := LF.cell 2 _ rfl
  have e3 := LF.cell 3 _ rfl
  refine bodyPost_ret (v := encC ⟨c, o, d, v⟩) (by simp only [results, Tryz.results254]; simp [go_sem, e0, e1, e2, e3, encC]) rfl ⟨rfl, ?_, ?_⟩
  · exact (((((hrd6.other _ _ (by simp; omega)).other _ _ (by simp; omega)).other _ _ (by simp; omega)).other _ _ (by simp; omega)).other _ _ (by simp; omega))
  · exact (((((O6.new (by omega) _).new (by omega) _).new (by omega) _).new (by omega) _).new (by omega) _)

set_option maxHeartbeats 1000000 in
theorem cond_plus_bad_lo (b n q1 q2 q3 : Nat) (s : ByteArray) (c d : UInt8) (o : Int) (ahead : Int) (w : World) (h : Rd w b s n) (hz : s.size ≤ 4096) (hn : n ≤ s.size) (ha : (ahead == 16) = false) (h1 : Pat.one s.data.toList 97 122 n = some (c, q1)) (h2 : Pat.op s.data.toList q1 = some (o, q2)) (C : Int) (h3 : pk s q2 = C) (hC : (C == 45) = false) (hC1 : ¬ 48 ≤ C) (h4 : Pat.one s.data.toList 97 122 q2 = some (d, q3)) (h5 : Pat.isB s.data.toList 43 43 q3 = true) (h7 : Pat.number s.data.toList 49 (q3 + 1) = none) :
    Calls Tryz.prog 254 #[.pointer (some ⟨b, 0, none⟩), .int .i64 ahead] w fun e w' => Fault e ∧ Oth b w w' := by
  have hs1 := one_sz h1
  have hs2 := (op_sz hs1 h2).1
  have hs3 := one_sz h4
  have hs4 := isB_le h5
  have hat : ∀ o, (w.alloc o).cell? ⟨b, 1, none⟩ = some (.int .i64 n) := fun o => (h.alloc o).ha
  have hbb := h.hb
  have H1 := Lib.hid h1
  have H2 := Lib.hid h2
  have H3 := Lib.hid h3
  have H4 := Lib.hid h4
  have H5 := Lib.hid h5
  have H7 := Lib.hid h7
  clear h1 h2 h3 h4 h5 h7
  go_enter Tryz.func254, Tryz.ntmps254
  go_wp2_with fail
  refine (one_some b n q1 s 97 122 c.toNat 97 122 c _ (by exact h.alloc _) hz hn rfl rfl H1.out rfl).mono ?_
  rintro e w1 ⟨rfl, hrd1, ho1⟩
  have L1 := (Lb.new w _ 350).oth ho1 (by omega)
  have O1 := ((Oth.refl b w).alloc _).trans ho1
  go_wp2_with fail
  refine (PR.of_some (op_any b q1 s _ (by exact hrd1) hz hs1) H2.out).mono ?_
  rintro e w2 ⟨rfl, hrd2, ho2⟩
  have L2 := L1.oth ho2 (by omega)
  have O2 := O1.trans ho2
  have M2 := Lb.new w2 #[.int .u8 c.toNat, .int .i64 o, .int .u8 0, .int .i64 0] 350
  have hao : ∀ ob k, ((w2.alloc ob).drewN k).cell? ⟨b, 1, none⟩ = some (.int .i64 q2) := fun ob _ => (hrd2.alloc ob).ha
  have hfo : ∀ ob k, ((w2.alloc ob).drewN k).frozen? ⟨b, 1, none⟩ = false := fun ob _ => (hrd2.alloc ob).hf
  have hb2 := hrd2.hb
  have z2 := L2.lt
  have hne : ¬ w2.heap.size = w.heap.size := by omega
  have hne1 : ¬ w.heap.size = w2.heap.size := by omega
  go_wp2_with fail
  refine (peek_any b q2 s _ (by exact hrd2.alloc _) hz hs2 C H3.out).mono ?_
  rintro e w3 ⟨rfl, k3, rfl⟩
  go_wp2_with fail
  refine (one_some b q2 q3 s 97 122 d.toNat 97 122 d _ (by exact ((hrd2.alloc _).drewN _)) hz hs2 rfl rfl H4.out rfl).mono ?_
  rintro e w4 ⟨rfl, hrd4, ho4⟩
  have L4 := ((L2.alloc (.cells #[.int .u8 c.toNat, .int .i64 o, .int .u8 0, .int .i64 0] 350)).drewN k3).oth ho4 (by omega)
  have M4 := (M2.drewN k3).oth ho4 (by omega)
  have O4 := ((O2.alloc _).drewN _).trans ho4
  have hb4 := hrd4.hb
  clear hat hao hfo
  clear ho4
  have c4_0 := M4.cell 0 _ rfl
  have c4_1 := M4.cell 1 _ rfl
  have c4_2 := M4.cell 2 _ rfl
  have c4_3 := M4.cell 3 _ rfl
  have f4 := fun i => M4.frozen i
  go_wp2_with fail
  refine (has_is b q3 (q3 + 1) s 43 43 true _ (by exact (hrd4.other _ _ (by simp; omega))) hz hs3 rfl H5.out rfl).mono ?_
  rintro e w5 ⟨rfl, hrd5, ho5⟩
  have L5 := (L4.other ⟨w2.heap.size, 2, none⟩ (.int .u8 d.toNat) hne1).oth ho5 (by omega)
  have M5 := (M4.set 2 (.int .u8 d.toNat)).oth ho5 (by omega)
  have O5 := (O4.new (by omega) _).trans ho5
  have hb5 := hrd5.hb
  clear ho5
  have c5_0 := M5.cell 0 _ rfl
  have c5_1 := M5.cell 1 _ rfl
  have c5_2 := M5.cell 2 _ rfl
  have c5_3 := M5.cell 3 _ rfl
  have f5 := fun i => M5.frozen i
  go_wp2_with fail
  refine (PR.of_none (number_any b (q3 + 1) s 49 49 _ (by exact hrd5) hz hs4 rfl (by decide)) H7.out).mono ?_
  rintro e w6 ⟨⟨a, c, rfl, hb⟩, ho6⟩
  exact ⟨rfl, ⟨_, _, rfl, hb⟩, O5.trans ho6⟩

set_option maxHeartbeats 1000000 in
theorem cond_less_lo (b n q1 q2 q3 q4 : Nat) (s : ByteArray) (c d : UInt8) (o v : Int) (ahead : Int) (w : World) (h : Rd w b s n) (hz : s.size ≤ 4096) (hn : n ≤ s.size) (ha : (ahead == 16) = false) (h1 : Pat.one s.data.toList 97 122 n = some (c, q1)) (h2 : Pat.op s.data.toList q1 = some (o, q2)) (C : Int) (h3 : pk s q2 = C) (hC : (C == 45) = false) (hC1 : ¬ 48 ≤ C) (h4 : Pat.one s.data.toList 97 122 q2 = some (d, q3)) (h5 : Pat.isB s.data.toList 43 43 q3 = false) (h6 : Pat.isB s.data.toList 45 45 q3 = true) (h7 : Pat.number s.data.toList 49 (q3 + 1) = some (v, q4)) :
    Calls Tryz.prog 254 #[.pointer (some ⟨b, 0, none⟩), .int .i64 ahead] w fun e w' => e = .returned (encC ⟨c, o, d, -v⟩) ∧ Rd w' b s q4 ∧ Oth b w w' := by
  have hs1 := one_sz h1
  have hs2 := (op_sz hs1 h2).1
  have hs3 := one_sz h4
  have hs4 := isB_le h6
  have hbv := number_bd (by decide) h7
  have hat : ∀ o, (w.alloc o).cell? ⟨b, 1, none⟩ = some (.int .i64 n) := fun o => (h.alloc o).ha
  have hbb := h.hb
  have H1 := Lib.hid h1
  have H2 := Lib.hid h2
  have H3 := Lib.hid h3
  have H4 := Lib.hid h4
  have H5 := Lib.hid h5
  have H6 := Lib.hid h6
  have H7 := Lib.hid h7
  clear h1 h2 h3 h4 h5 h6 h7
  go_enter Tryz.func254, Tryz.ntmps254
  go_wp2_with fail
  refine (one_some b n q1 s 97 122 c.toNat 97 122 c _ (by exact h.alloc _) hz hn rfl rfl H1.out rfl).mono ?_
  rintro e w1 ⟨rfl, hrd1, ho1⟩
  have L1 := (Lb.new w _ 350).oth ho1 (by omega)
  have O1 := ((Oth.refl b w).alloc _).trans ho1
  go_wp2_with fail
  refine (PR.of_some (op_any b q1 s _ (by exact hrd1) hz hs1) H2.out).mono ?_
  rintro e w2 ⟨rfl, hrd2, ho2⟩
  have L2 := L1.oth ho2 (by omega)
  have O2 := O1.trans ho2
  have M2 := Lb.new w2 #[.int .u8 c.toNat, .int .i64 o, .int .u8 0, .int .i64 0] 350
  have hao : ∀ ob k, ((w2.alloc ob).drewN k).cell? ⟨b, 1, none⟩ = some (.int .i64 q2) := fun ob _ => (hrd2.alloc ob).ha
  have hfo : ∀ ob k, ((w2.alloc ob).drewN k).frozen? ⟨b, 1, none⟩ = false := fun ob _ => (hrd2.alloc ob).hf
  have hb2 := hrd2.hb
  have z2 := L2.lt
  have hne : ¬ w2.heap.size = w.heap.size := by omega
  have hne1 : ¬ w.heap.size = w2.heap.size := by omega
  go_wp2_with fail
  refine (peek_any b q2 s _ (by exact hrd2.alloc _) hz hs2 C H3.out).mono ?_
  rintro e w3 ⟨rfl, k3, rfl⟩
  go_wp2_with fail
  refine (one_some b q2 q3 s 97 122 d.toNat 97 122 d _ (by exact ((hrd2.alloc _).drewN _)) hz hs2 rfl rfl H4.out rfl).mono ?_
  rintro e w4 ⟨rfl, hrd4, ho4⟩
  have L4 := ((L2.alloc (.cells #[.int .u8 c.toNat, .int .i64 o, .int .u8 0, .int .i64 0] 350)).drewN k3).oth ho4 (by omega)
  have M4 := (M2.drewN k3).oth ho4 (by omega)
  have O4 := ((O2.alloc _).drewN _).trans ho4
  have hb4 := hrd4.hb
  clear hat hao hfo
  clear ho4
  have c4_0 := M4.cell 0 _ rfl
  have c4_1 := M4.cell 1 _ rfl
  have c4_2 := M4.cell 2 _ rfl
  have c4_3 := M4.cell 3 _ rfl
  have f4 := fun i => M4.frozen i
  go_wp2_with fail
  refine (has_is b q3 q3 s 43 43 false _ (by exact (hrd4.other _ _ (by simp; omega))) hz hs3 rfl H5.out rfl).mono ?_
  rintro e w5 ⟨rfl, hrd5, ho5⟩
  have L5 := (L4.other ⟨w2.heap.size, 2, none⟩ (.int .u8 d.toNat) hne1).oth ho5 (by omega)
  have M5 := (M4.set 2 (.int .u8 d.toNat)).oth ho5 (by omega)
  have O5 := (O4.new (by omega) _).trans ho5
  have hb5 := hrd5.hb
  clear ho5
  have c5_0 := M5.cell 0 _ rfl
  have c5_1 := M5.cell 1 _ rfl
  have c5_2 := M5.cell 2 _ rfl
  have c5_3 := M5.cell 3 _ rfl
  have f5 := fun i => M5.frozen i
  go_wp2_with fail
  refine (has_is b q3 (q3 + 1) s 45 45 true _ (by exact hrd5) hz hs3 rfl H6.out rfl).mono ?_
  rintro e w6 ⟨rfl, hrd6, ho6⟩
  have L6 := L5.oth ho6 (by omega)
  have M6 := M5.oth ho6 (by omega)
  have O6 := O5.trans ho6
  have hb6 := hrd6.hb
  clear ho6
  have c6_0 := M6.cell 0 _ rfl
  have c6_1 := M6.cell 1 _ rfl
  have c6_2 := M6.cell 2 _ rfl
  have c6_3 := M6.cell 3 _ rfl
  have f6 := fun i => M6.frozen i
  go_wp2_with fail
  refine (PR.of_some (number_any b (q3 + 1) s 49 49 _ (by exact hrd6) hz hs4 rfl (by decide)) H7.out).mono ?_
  rintro e w7 ⟨rfl, hrd7, ho7⟩
  have L7 := L6.oth ho7 (by omega)
  have M7 := M6.oth ho7 (by omega)
  have O7 := O6.trans ho7
  have hb7 := hrd7.hb
  clear ho7
  have c7_0 := M7.cell 0 _ rfl
  have c7_1 := M7.cell 1 _ rfl
  have c7_2 := M7.cell 2 _ rfl
  have c7_3 := M7.cell 3 _ rfl
  have f7 := fun i => M7.frozen i
  have d7_0 := L7.cell 0 _ rfl
  have d7_1 := L7.cell 1 _ rfl
  have d7_2 := L7.cell 2 _ rfl
  have d7_3 := L7.cell 3 _ rfl
  have g7 := fun i => L7.frozen i
  go_wp2
  have LF := (((((L7.other ⟨w2.heap.size, 3, none⟩ (.int .i64 (-v)) hne1).set 0 (.int .u8 c.toNat)).set 1 (.int .i64 o)).set 2 (.int .u8 d.toNat)).set 3 (.int .i64 (-v)))
  have e0 := LF.cell 0 _ rfl
  have e1 := LF.cell 1 _ rfl
  have e2 := LF.cell 2 _ rfl
  have e3 := LF.cell 3 _ rfl
  refine bodyPost_ret (v := encC ⟨c, o, d, -v⟩) (by simp only [results, Tryz.results254]; simp [go_sem, e0, e1, e2, e3, encC]) rfl ⟨rfl, ?_, ?_⟩
  · exact (((((hrd7.other _ _ (by simp; omega)).other _ _ (by simp; omega)).other _ _ (by simp; omega)).other _ _ (by simp; omega)).other _ _ (by simp; omega))
  · exact (((((O7.new (by omega) _).new (by omega) _).new (by omega) _).new (by omega) _).new (by omega) _)

set_option maxHeartbeats 1000000 in
theorem cond_less_bad_lo (b n q1 q2 q3 : Nat) (s : ByteArray) (c d : UInt8) (o : Int) (ahead : Int) (w : World) (h : Rd w b s n) (hz : s.size ≤ 4096) (hn : n ≤ s.size) (ha : (ahead == 16) = false) (h1 : Pat.one s.data.toList 97 122 n = some (c, q1)) (h2 : Pat.op s.data.toList q1 = some (o, q2)) (C : Int) (h3 : pk s q2 = C) (hC : (C == 45) = false) (hC1 : ¬ 48 ≤ C) (h4 : Pat.one s.data.toList 97 122 q2 = some (d, q3)) (h5 : Pat.isB s.data.toList 43 43 q3 = false) (h6 : Pat.isB s.data.toList 45 45 q3 = true) (h7 : Pat.number s.data.toList 49 (q3 + 1) = none) :
    Calls Tryz.prog 254 #[.pointer (some ⟨b, 0, none⟩), .int .i64 ahead] w fun e w' => Fault e ∧ Oth b w w' := by
  have hs1 := one_sz h1
  have hs2 := (op_sz hs1 h2).1
  have hs3 := one_sz h4
  have hs4 := isB_le h6
  have hat : ∀ o, (w.alloc o).cell? ⟨b, 1, none⟩ = some (.int .i64 n) := fun o => (h.alloc o).ha
  have hbb := h.hb
  have H1 := Lib.hid h1
  have H2 := Lib.hid h2
  have H3 := Lib.hid h3
  have H4 := Lib.hid h4
  have H5 := Lib.hid h5
  have H6 := Lib.hid h6
  have H7 := Lib.hid h7
  clear h1 h2 h3 h4 h5 h6 h7
  go_enter Tryz.func254, Tryz.ntmps254
  go_wp2_with fail
  refine (one_some b n q1 s 97 122 c.toNat 97 122 c _ (by exact h.alloc _) hz hn rfl rfl H1.out rfl).mono ?_
  rintro e w1 ⟨rfl, hrd1, ho1⟩
  have L1 := (Lb.new w _ 350).oth ho1 (by omega)
  have O1 := ((Oth.refl b w).alloc _).trans ho1
  go_wp2_with fail
  refine (PR.of_some (op_any b q1 s _ (by exact hrd1) hz hs1) H2.out).mono ?_
  rintro e w2 ⟨rfl, hrd2, ho2⟩
  have L2 := L1.oth ho2 (by omega)
  have O2 := O1.trans ho2
  have M2 := Lb.new w2 #[.int .u8 c.toNat, .int .i64 o, .int .u8 0, .int .i64 0] 350
  have hao : ∀ ob k, ((w2.alloc ob).drewN k).cell? ⟨b, 1, none⟩ = some (.int .i64 q2) := fun ob _ => (hrd2.alloc ob).ha
  have hfo : ∀ ob k, ((w2.alloc ob).drewN k).frozen? ⟨b, 1, none⟩ = false := fun ob _ => (hrd2.alloc ob).hf
  have hb2 := hrd2.hb
  have z2 := L2.lt
  have hne : ¬ w2.heap.size = w.heap.size := by omega
  have hne1 : ¬ w.heap.size = w2.heap.size := by omega
  go_wp2_with fail
  refine (peek_any b q2 s _ (by exact hrd2.alloc _) hz hs2 C H3.out).mono ?_
  rintro e w3 ⟨rfl, k3, rfl⟩
  go_wp2_with fail
  refine (one_some b q2 q3 s 97 122 d.toNat 97 122 d _ (by exact ((hrd2.alloc _).drewN _)) hz hs2 rfl rfl H4.out rfl).mono ?_
  rintro e w4 ⟨rfl, hrd4, ho4⟩
  have L4 := ((L2.alloc (.cells #[.int .u8 c.toNat, .int .i64 o, .int .u8 0, .int .i64 0] 350)).drewN k3).oth ho4 (by omega)
  have M4 := (M2.drewN k3).oth ho4 (by omega)
  have O4 := ((O2.alloc _).drewN _).trans ho4
  have hb4 := hrd4.hb
  clear hat hao hfo
  clear ho4
  have c4_0 := M4.cell 0 _ rfl
  have c4_1 := M4.cell 1 _ rfl
  have c4_2 := M4.cell 2 _ rfl
  have c4_3 := M4.cell 3 _ rfl
  have f4 := fun i => M4.frozen i
  go_wp2_with fail
  refine (has_is b q3 q3 s 43 43 false _ (by exact (hrd4.other _ _ (by simp; omega))) hz hs3 rfl H5.out rfl).mono ?_
  rintro e w5 ⟨rfl, hrd5, ho5⟩
  have L5 := (L4.other ⟨w2.heap.size, 2, none⟩ (.int .u8 d.toNat) hne1).oth ho5 (by omega)
  have M5 := (M4.set 2 (.int .u8 d.toNat)).oth ho5 (by omega)
  have O5 := (O4.new (by omega) _).trans ho5
  have hb5 := hrd5.hb
  clear ho5
  have c5_0 := M5.cell 0 _ rfl
  have c5_1 := M5.cell 1 _ rfl
  have c5_2 := M5.cell 2 _ rfl
  have c5_3 := M5.cell 3 _ rfl
  have f5 := fun i => M5.frozen i
  go_wp2_with fail
  refine (has_is b q3 (q3 + 1) s 45 45 true _ (by exact hrd5) hz hs3 rfl H6.out rfl).mono ?_
  rintro e w6 ⟨rfl, hrd6, ho6⟩
  have L6 := L5.oth ho6 (by omega)
  have M6 := M5.oth ho6 (by omega)
  have O6 := O5.trans ho6
  have hb6 := hrd6.hb
  clear ho6
  have c6_0 := M6.cell 0 _ rfl
  have c6_1 := M6.cell 1 _ rfl
  have c6_2 := M6.cell 2 _ rfl
  have c6_3 := M6.cell 3 _ rfl
  have f6 := fun i => M6.frozen i
  go_wp2_with fail
  refine (PR.of_none (number_any b (q3 + 1) s 49 49 _ (by exact hrd6) hz hs4 rfl (by decide)) H7.out).mono ?_
  rintro e w7 ⟨⟨a, c, rfl, hb⟩, ho7⟩
  exact ⟨rfl, ⟨_, _, rfl, hb⟩, O6.trans ho7⟩

set_option maxHeartbeats 1000000 in
theorem cond_name_lo (b n q1 q2 q3 : Nat) (s : ByteArray) (c d : UInt8) (o : Int) (ahead : Int) (w : World) (h : Rd w b s n) (hz : s.size ≤ 4096) (hn : n ≤ s.size) (ha : (ahead == 16) = false) (h1 : Pat.one s.data.toList 97 122 n = some (c, q1)) (h2 : Pat.op s.data.toList q1 = some (o, q2)) (C : Int) (h3 : pk s q2 = C) (hC : (C == 45) = false) (hC1 : ¬ 48 ≤ C) (h4 : Pat.one s.data.toList 97 122 q2 = some (d, q3)) (h5 : Pat.isB s.data.toList 43 43 q3 = false) (h6 : Pat.isB s.data.toList 45 45 q3 = false) :
    Calls Tryz.prog 254 #[.pointer (some ⟨b, 0, none⟩), .int .i64 ahead] w fun e w' => e = .returned (encC ⟨c, o, d, 0⟩) ∧ Rd w' b s q3 ∧ Oth b w w' := by
  have hs1 := one_sz h1
  have hs2 := (op_sz hs1 h2).1
  have hs3 := one_sz h4
  have hat : ∀ o, (w.alloc o).cell? ⟨b, 1, none⟩ = some (.int .i64 n) := fun o => (h.alloc o).ha
  have hbb := h.hb
  have H1 := Lib.hid h1
  have H2 := Lib.hid h2
  have H3 := Lib.hid h3
  have H4 := Lib.hid h4
  have H5 := Lib.hid h5
  have H6 := Lib.hid h6
  clear h1 h2 h3 h4 h5 h6
  go_enter Tryz.func254, Tryz.ntmps254
  go_wp2_with fail
  refine (one_some b n q1 s 97 122 c.toNat 97 122 c _ (by exact h.alloc _) hz hn rfl rfl H1.out rfl).mono ?_
  rintro e w1 ⟨rfl, hrd1, ho1⟩
  have L1 := (Lb.new w _ 350).oth ho1 (by omega)
  have O1 := ((Oth.refl b w).alloc _).trans ho1
  go_wp2_with fail
  refine (PR.of_some (op_any b q1 s _ (by exact hrd1) hz hs1) H2.out).mono ?_
  rintro e w2 ⟨rfl, hrd2, ho2⟩
  have L2 := L1.oth ho2 (by omega)
  have O2 := O1.trans ho2
  have M2 := Lb.new w2 #[.int .u8 c.toNat, .int .i64 o, .int .u8 0, .int .i64 0] 350
  have hao : ∀ ob k, ((w2.alloc ob).drewN k).cell? ⟨b, 1, none⟩ = some (.int .i64 q2) := fun ob _ => (hrd2.alloc ob).ha
  have hfo : ∀ ob k, ((w2.alloc ob).drewN k).frozen? ⟨b, 1, none⟩ = false := fun ob _ => (hrd2.alloc ob).hf
  have hb2 := hrd2.hb
  have z2 := L2.lt
  have hne : ¬ w2.heap.size = w.heap.size := by omega
  have hne1 : ¬ w.heap.size = w2.heap.size := by omega
  go_wp2_with fail
  refine (peek_any b q2 s _ (by exact hrd2.alloc _) hz hs2 C H3.out).mono ?_
  rintro e w3 ⟨rfl, k3, rfl⟩
  go_wp2_with fail
  refine (one_some b q2 q3 s 97 122 d.toNat 97 122 d _ (by exact ((hrd2.alloc _).drewN _)) hz hs2 rfl rfl H4.out rfl).mono ?_
  rintro e w4 ⟨rfl, hrd4, ho4⟩
  have L4 := ((L2.alloc (.cells #[.int .u8 c.toNat, .int .i64 o, .int .u8 0, .int .i64 0] 350)).drewN k3).oth ho4 (by omega)
  have M4 := (M2.drewN k3).oth ho4 (by omega)
  have O4 := ((O2.alloc _).drewN _).trans ho4
  have hb4 := hrd4.hb
  clear hat hao hfo
  clear ho4
  have c4_0 := M4.cell 0 _ rfl
  have c4_1 := M4.cell 1 _ rfl
  have c4_2 := M4.cell 2 _ rfl
  have c4_3 := M4.cell 3 _ rfl
  have f4 := fun i => M4.frozen i
  go_wp2_with fail
  refine (has_is b q3 q3 s 43 43 false _ (by exact (hrd4.other _ _ (by simp; omega))) hz hs3 rfl H5.out rfl).mono ?_
  rintro e w5 ⟨rfl, hrd5, ho5⟩
  have L5 := (L4.other ⟨w2.heap.size, 2, none⟩ (.int .u8 d.toNat) hne1).oth ho5 (by omega)
  have M5 := (M4.set 2 (.int .u8 d.toNat)).oth ho5 (by omega)
  have O5 := (O4.new (by omega) _).trans ho5
  have hb5 := hrd5.hb
  clear ho5
  have c5_0 := M5.cell 0 _ rfl
  have c5_1 := M5.cell 1 _ rfl
  have c5_2 := M5.cell 2 _ rfl
  have c5_3 := M5.cell 3 _ rfl
  have f5 := fun i => M5.frozen i
  go_wp2_with fail
  refine (has_is b q3 q3 s 45 45 false _ (by exact hrd5) hz hs3 rfl H6.out rfl).mono ?_
  rintro e w6 ⟨rfl, hrd6, ho6⟩
  have L6 := L5.oth ho6 (by omega)
  have M6 := M5.oth ho6 (by omega)
  have O6 := O5.trans ho6
  have hb6 := hrd6.hb
  clear ho6
  have c6_0 := M6.cell 0 _ rfl
  have c6_1 := M6.cell 1 _ rfl
  have c6_2 := M6.cell 2 _ rfl
  have c6_3 := M6.cell 3 _ rfl
  have f6 := fun i => M6.frozen i
  have d6_0 := L6.cell 0 _ rfl
  have d6_1 := L6.cell 1 _ rfl
  have d6_2 := L6.cell 2 _ rfl
  have d6_3 := L6.cell 3 _ rfl
  have g6 := fun i => L6.frozen i
  go_wp2
  have LF := ((((L6.set 0 (.int .u8 c.toNat)).set 1 (.int .i64 o)).set 2 (.int .u8 d.toNat)).set 3 (.int .i64 0))
  have e0 := LF.cell 0 _ rfl
  have e1 := LF.cell 1 _ rfl
  have e2 := LF.cell 2 _ rfl
  have e3 := LF.cell 3 _ rfl
  refine bodyPost_ret (v := encC ⟨c, o, d, 0⟩) (by simp only [results, Tryz.results254]; simp [go_sem, e0, e1, e2, e3, encC]) rfl ⟨rfl, ?_, ?_⟩
  · exact ((((hrd6.other _ _ (by simp; omega)).other _ _ (by simp; omega)).other _ _ (by simp; omega)).other _ _ (by simp; omega))
  · exact ((((O6.new (by omega) _).new (by omega) _).new (by omega) _).new (by omega) _)

set_option maxHeartbeats 1000000 in
theorem cond_right_bad_hi (b n q1 q2 : Nat) (s : ByteArray) (c : UInt8) (o : Int) (ahead : Int) (w : World) (h : Rd w b s n) (hz : s.size ≤ 4096) (hn : n ≤ s.size) (ha : (ahead == 16) = false) (h1 : Pat.one s.data.toList 97 122 n = some (c, q1)) (h2 : Pat.op s.data.toList q1 = some (o, q2)) (C : Int) (h3 : pk s q2 = C) (hC : (C == 45) = false) (hC1 : 48 ≤ C) (hC2 : ¬ C ≤ 57) (h4 : Pat.one s.data.toList 97 122 q2 = none) :
    Calls Tryz.prog 254 #[.pointer (some ⟨b, 0, none⟩), .int .i64 ahead] w fun e w' => Fault e ∧ Oth b w w' := by
  have hs1 := one_sz h1
  have hs2 := (op_sz hs1 h2).1
  have hat : ∀ o, (w.alloc o).cell? ⟨b, 1, none⟩ = some (.int .i64 n) := fun o => (h.alloc o).ha
  have hbb := h.hb
  have H1 := Lib.hid h1
  have H2 := Lib.hid h2
  have H3 := Lib.hid h3
  have H4 := Lib.hid h4
  clear h1 h2 h3 h4
  go_enter Tryz.func254, Tryz.ntmps254
  go_wp2_with fail
  refine (one_some b n q1 s 97 122 c.toNat 97 122 c _ (by exact h.alloc _) hz hn rfl rfl H1.out rfl).mono ?_
  rintro e w1 ⟨rfl, hrd1, ho1⟩
  have L1 := (Lb.new w _ 350).oth ho1 (by omega)
  have O1 := ((Oth.refl b w).alloc _).trans ho1
  go_wp2_with fail
  refine (PR.of_some (op_any b q1 s _ (by exact hrd1) hz hs1) H2.out).mono ?_
  rintro e w2 ⟨rfl, hrd2, ho2⟩
  have L2 := L1.oth ho2 (by omega)
  have O2 := O1.trans ho2
  have M2 := Lb.new w2 #[.int .u8 c.toNat, .int .i64 o, .int .u8 0, .int .i64 0] 350
  have hao : ∀ ob k, ((w2.alloc ob).drewN k).cell? ⟨b, 1, none⟩ = some (.int .i64 q2) := fun ob _ => (hrd2.alloc ob).ha
  have hfo : ∀ ob k, ((w2.alloc ob).drewN k).frozen? ⟨b, 1, none⟩ = false := fun ob _ => (hrd2.alloc ob).hf
  have hb2 := hrd2.hb
  have z2 := L2.lt
  have hne : ¬ w2.heap.size = w.heap.size := by omega
  have hne1 : ¬ w.heap.size = w2.heap.size := by omega
  go_wp2_with fail
  refine (peek_any b q2 s _ (by exact hrd2.alloc _) hz hs2 C H3.out).mono ?_
  rintro e w3 ⟨rfl, k3, rfl⟩
  go_wp2_with fail
  refine (one_none b q2 s 97 122 97 122 _ (by exact ((hrd2.alloc _).drewN _)) hz hs2 rfl rfl H4.out).mono ?_
  rintro e w4 ⟨⟨a, c, rfl, hb⟩, ho4⟩
  exact ⟨rfl, ⟨_, _, rfl, hb⟩, ((O2.alloc _).drewN _).trans ho4⟩

set_option maxHeartbeats 1000000 in
theorem cond_plus_hi (b n q1 q2 q3 q4 : Nat) (s : ByteArray) (c d : UInt8) (o v : Int) (ahead : Int) (w : World) (h : Rd w b s n) (hz : s.size ≤ 4096) (hn : n ≤ s.size) (ha : (ahead == 16) = false) (h1 : Pat.one s.data.toList 97 122 n = some (c, q1)) (h2 : Pat.op s.data.toList q1 = some (o, q2)) (C : Int) (h3 : pk s q2 = C) (hC : (C == 45) = false) (hC1 : 48 ≤ C) (hC2 : ¬ C ≤ 57) (h4 : Pat.one s.data.toList 97 122 q2 = some (d, q3)) (h5 : Pat.isB s.data.toList 43 43 q3 = true) (h7 : Pat.number s.data.toList 49 (q3 + 1) = some (v, q4)) :
    Calls Tryz.prog 254 #[.pointer (some ⟨b, 0, none⟩), .int .i64 ahead] w fun e w' => e = .returned (encC ⟨c, o, d, v⟩) ∧ Rd w' b s q4 ∧ Oth b w w' := by
  have hs1 := one_sz h1
  have hs2 := (op_sz hs1 h2).1
  have hs3 := one_sz h4
  have hs4 := isB_le h5
  have hbv := number_bd (by decide) h7
  have hat : ∀ o, (w.alloc o).cell? ⟨b, 1, none⟩ = some (.int .i64 n) := fun o => (h.alloc o).ha
  have hbb := h.hb
  have H1 := Lib.hid h1
  have H2 := Lib.hid h2
  have H3 := Lib.hid h3
  have H4 := Lib.hid h4
  have H5 := Lib.hid h5
  have H7 := Lib.hid h7
  clear h1 h2 h3 h4 h5 h7
  go_enter Tryz.func254, Tryz.ntmps254
  go_wp2_with fail
  refine (one_some b n q1 s 97 122 c.toNat 97 122 c _ (by exact h.alloc _) hz hn rfl rfl H1.out rfl).mono ?_
  rintro e w1 ⟨rfl, hrd1, ho1⟩
  have L1 := (Lb.new w _ 350).oth ho1 (by omega)
  have O1 := ((Oth.refl b w).alloc _).trans ho1
  go_wp2_with fail
  refine (PR.of_some (op_any b q1 s _ (by exact hrd1) hz hs1) H2.out).mono ?_
  rintro e w2 ⟨rfl, hrd2, ho2⟩
  have L2 := L1.oth ho2 (by omega)
  have O2 := O1.trans ho2
  have M2 := Lb.new w2 #[.int .u8 c.toNat, .int .i64 o, .int .u8 0, .int .i64 0] 350
  have hao : ∀ ob k, ((w2.alloc ob).drewN k).cell? ⟨b, 1, none⟩ = some (.int .i64 q2) := fun ob _ => (hrd2.alloc ob).ha
  have hfo : ∀ ob k, ((w2.alloc ob).drewN k).frozen? ⟨b, 1, none⟩ = false := fun ob _ => (hrd2.alloc ob).hf
  have hb2 := hrd2.hb
  have z2 := L2.lt
  have hne : ¬ w2.heap.size = w.heap.size := by omega
  have hne1 : ¬ w.heap.size = w2.heap.size := by omega
  go_wp2_with fail
  refine (peek_any b q2 s _ (by exact hrd2.alloc _) hz hs2 C H3.out).mono ?_
  rintro e w3 ⟨rfl, k3, rfl⟩
  go_wp2_with fail
  refine (one_some b q2 q3 s 97 122 d.toNat 97 122 d _ (by exact ((hrd2.alloc _).drewN _)) hz hs2 rfl rfl H4.out rfl).mono ?_
  rintro e w4 ⟨rfl, hrd4, ho4⟩
  have L4 := ((L2.alloc (.cells #[.int .u8 c.toNat, .int .i64 o, .int .u8 0, .int .i64 0] 350)).drewN k3).oth ho4 (by omega)
  have M4 := (M2.drewN k3).oth ho4 (by omega)
  have O4 := ((O2.alloc _).drewN _).trans ho4
  have hb4 := hrd4.hb
  clear hat hao hfo
  clear ho4
  have c4_0 := M4.cell 0 _ rfl
  have c4_1 := M4.cell 1 _ rfl
  have c4_2 := M4.cell 2 _ rfl
  have c4_3 := M4.cell 3 _ rfl
  have f4 := fun i => M4.frozen i
  go_wp2_with fail
  refine (has_is b q3 (q3 + 1) s 43 43 true _ (by exact (hrd4.other _ _ (by simp; omega))) hz hs3 rfl H5.out rfl).mono ?_
  rintro e w5 ⟨rfl, hrd5, ho5⟩
  have L5 := (L4.other ⟨w2.heap.size, 2, none⟩ (.int .u8 d.toNat) hne1).oth ho5 (by omega)
  have M5 := (M4.set 2 (.int .u8 d.toNat)).oth ho5 (by omega)
  have O5 := (O4.new (by omega) _).trans ho5
  have hb5 := hrd5.hb
  clear ho5
  have c5_0 := M5.cell 0 _ rfl
  have c5_1 := M5.cell 1 _ rfl
  have c5_2 := M5.cell 2 _ rfl
  have c5_3 := M5.cell 3 _ rfl
  have f5 := fun i => M5.frozen i
  go_wp2_with fail
  refine (PR.of_some (number_any b (q3 + 1) s 49 49 _ (by exact hrd5) hz hs4 rfl (by decide)) H7.out).mono ?_
  rintro e w6 ⟨rfl, hrd6, ho6⟩
  have L6 := L5.oth ho6 (by omega)
  have M6 := M5.oth ho6 (by omega)
  have O6 := O5.trans ho6
  have hb6 := hrd6.hb
  clear ho6
  have c6_0 := M6.cell 0 _ rfl
  have c6_1 := M6.cell 1 _ rfl
  have c6_2 := M6.cell 2 _ rfl
  have c6_3 := M6.cell 3 _ rfl
  have f6 := fun i => M6.frozen i
  have d6_0 := L6.cell 0 _ rfl
  have d6_1 := L6.cell 1 _ rfl
  have d6_2 := L6.cell 2 _ rfl
  have d6_3 := L6.cell 3 _ rfl
  have g6 := fun i => L6.frozen i
  go_wp2
  have LF := (((((L6.other ⟨w2.heap.size, 3, none⟩ (.int .i64 v) hne1).set 0 (.int .u8 c.toNat)).set 1 (.int .i64 o)).set 2 (.int .u8 d.toNat)).set 3 (.int .i64 v))
  have e0 := LF.cell 0 _ rfl
  have e1 := LF.cell 1 _ rfl
  have e2 := LF.cell 2 _ rfl
  have e3 := LF.cell 3 _ rfl
  refine bodyPost_ret (v := encC ⟨c, o, d, v⟩) (by simp only [results, Tryz.results254]; simp [go_sem, e0, e1, e2, e3, encC]) rfl ⟨rfl, ?_, ?_⟩
  · exact (((((hrd6.other _ _ (by simp; omega)).other _ _ (by simp; omega)).other _ _ (by simp; omega)).other _ _ (by simp; omega)).other _ _ (by simp; omega))
  · exact (((((O6.new (by omega) _).new (by omega) _).new (by omega) _).new (by omega) _).new (by omega) _)

set_option maxHeartbeats 1000000 in
theorem cond_plus_bad_hi (b n q1 q2 q3 : Nat) (s : ByteArray) (c d : UInt8) (o : Int) (ahead : Int) (w : World) (h : Rd w b s n) (hz : s.size ≤ 4096) (hn : n ≤ s.size) (ha : (ahead == 16) = false) (h1 : Pat.one s.data.toList 97 122 n = some (c, q1)) (h2 : Pat.op s.data.toList q1 = some (o, q2)) (C : Int) (h3 : pk s q2 = C) (hC : (C == 45) = false) (hC1 : 48 ≤ C) (hC2 : ¬ C ≤ 57) (h4 : Pat.one s.data.toList 97 122 q2 = some (d, q3)) (h5 : Pat.isB s.data.toList 43 43 q3 = true) (h7 : Pat.number s.data.toList 49 (q3 + 1) = none) :
    Calls Tryz.prog 254 #[.pointer (some ⟨b, 0, none⟩), .int .i64 ahead] w fun e w' => Fault e ∧ Oth b w w' := by
  have hs1 := one_sz h1
  have hs2 := (op_sz hs1 h2).1
  have hs3 := one_sz h4
  have hs4 := isB_le h5
  have hat : ∀ o, (w.alloc o).cell? ⟨b, 1, none⟩ = some (.int .i64 n) := fun o => (h.alloc o).ha
  have hbb := h.hb
  have H1 := Lib.hid h1
  have H2 := Lib.hid h2
  have H3 := Lib.hid h3
  have H4 := Lib.hid h4
  have H5 := Lib.hid h5
  have H7 := Lib.hid h7
  clear h1 h2 h3 h4 h5 h7
  go_enter Tryz.func254, Tryz.ntmps254
  go_wp2_with fail
  refine (one_some b n q1 s 97 122 c.toNat 97 122 c _ (by exact h.alloc _) hz hn rfl rfl H1.out rfl).mono ?_
  rintro e w1 ⟨rfl, hrd1, ho1⟩
  have L1 := (Lb.new w _ 350).oth ho1 (by omega)
  have O1 := ((Oth.refl b w).alloc _).trans ho1
  go_wp2_with fail
  refine (PR.of_some (op_any b q1 s _ (by exact hrd1) hz hs1) H2.out).mono ?_
  rintro e w2 ⟨rfl, hrd2, ho2⟩
  have L2 := L1.oth ho2 (by omega)
  have O2 := O1.trans ho2
  have M2 := Lb.new w2 #[.int .u8 c.toNat, .int .i64 o, .int .u8 0, .int .i64 0] 350
  have hao : ∀ ob k, ((w2.alloc ob).drewN k).cell? ⟨b, 1, none⟩ = some (.int .i64 q2) := fun ob _ => (hrd2.alloc ob).ha
  have hfo : ∀ ob k, ((w2.alloc ob).drewN k).frozen? ⟨b, 1, none⟩ = false := fun ob _ => (hrd2.alloc ob).hf
  have hb2 := hrd2.hb
  have z2 := L2.lt
  have hne : ¬ w2.heap.size = w.heap.size := by omega
  have hne1 : ¬ w.heap.size = w2.heap.size := by omega
  go_wp2_with fail
  refine (peek_any b q2 s _ (by exact hrd2.alloc _) hz hs2 C H3.out).mono ?_
  rintro e w3 ⟨rfl, k3, rfl⟩
  go_wp2_with fail
  refine (one_some b q2 q3 s 97 122 d.toNat 97 122 d _ (by exact ((hrd2.alloc _).drewN _)) hz hs2 rfl rfl H4.out rfl).mono ?_
  rintro e w4 ⟨rfl, hrd4, ho4⟩
  have L4 := ((L2.alloc (.cells #[.int .u8 c.toNat, .int .i64 o, .int .u8 0, .int .i64 0] 350)).drewN k3).oth ho4 (by omega)
  have M4 := (M2.drewN k3).oth ho4 (by omega)
  have O4 := ((O2.alloc _).drewN _).trans ho4
  have hb4 := hrd4.hb
  clear hat hao hfo
  clear ho4
  have c4_0 := M4.cell 0 _ rfl
  have c4_1 := M4.cell 1 _ rfl
  have c4_2 := M4.cell 2 _ rfl
  have c4_3 := M4.cell 3 _ rfl
  have f4 := fun i => M4.frozen i
  go_wp2_with fail
  refine (has_is b q3 (q3 + 1) s 43 43 true _ (by exact (hrd4.other _ _ (by simp; omega))) hz hs3 rfl H5.out rfl).mono ?_
  rintro e w5 ⟨rfl, hrd5, ho5⟩
  have L5 := (L4.other ⟨w2.heap.size, 2, none⟩ (.int .u8 d.toNat) hne1).oth ho5 (by omega)
  have M5 := (M4.set 2 (.int .u8 d.toNat)).oth ho5 (by omega)
  have O5 := (O4.new (by omega) _).trans ho5
  have hb5 := hrd5.hb
  clear ho5
  have c5_0 := M5.cell 0 _ rfl
  have c5_1 := M5.cell 1 _ rfl
  have c5_2 := M5.cell 2 _ rfl
  have c5_3 := M5.cell 3 _ rfl
  have f5 := fun i => M5.frozen i
  go_wp2_with fail
  refine (PR.of_none (number_any b (q3 + 1) s 49 49 _ (by exact hrd5) hz hs4 rfl (by decide)) H7.out).mono ?_
  rintro e w6 ⟨⟨a, c, rfl, hb⟩, ho6⟩
  exact ⟨rfl, ⟨_, _, rfl, hb⟩, O5.trans ho6⟩

set_option maxHeartbeats 1000000 in
theorem cond_less_hi (b n q1 q2 q3 q4 : Nat) (s : ByteArray) (c d : UInt8) (o v : Int) (ahead : Int) (w : World) (h : Rd w b s n) (hz : s.size ≤ 4096) (hn : n ≤ s.size) (ha : (ahead == 16) = false) (h1 : Pat.one s.data.toList 97 122 n = some (c, q1)) (h2 : Pat.op s.data.toList q1 = some (o, q2)) (C : Int) (h3 : pk s q2 = C) (hC : (C == 45) = false) (hC1 : 48 ≤ C) (hC2 : ¬ C ≤ 57) (h4 : Pat.one s.data.toList 97 122 q2 = some (d, q3)) (h5 : Pat.isB s.data.toList 43 43 q3 = false) (h6 : Pat.isB s.data.toList 45 45 q3 = true) (h7 : Pat.number s.data.toList 49 (q3 + 1) = some (v, q4)) :
    Calls Tryz.prog 254 #[.pointer (some ⟨b, 0, none⟩), .int .i64 ahead] w fun e w' => e = .returned (encC ⟨c, o, d, -v⟩) ∧ Rd w' b s q4 ∧ Oth b w w' := by
  have hs1 := one_sz h1
  have hs2 := (op_sz hs1 h2).1
  have hs3 := one_sz h4
  have hs4 := isB_le h6
  have hbv := number_bd (by decide) h7
  have hat : ∀ o, (w.alloc o).cell? ⟨b, 1, none⟩ = some (.int .i64 n) := fun o => (h.alloc o).ha
  have hbb := h.hb
  have H1 := Lib.hid h1
  have H2 := Lib.hid h2
  have H3 := Lib.hid h3
  have H4 := Lib.hid h4
  have H5 := Lib.hid h5
  have H6 := Lib.hid h6
  have H7 := Lib.hid h7
  clear h1 h2 h3 h4 h5 h6 h7
  go_enter Tryz.func254, Tryz.ntmps254
  go_wp2_with fail
  refine (one_some b n q1 s 97 122 c.toNat 97 122 c _ (by exact h.alloc _) hz hn rfl rfl H1.out rfl).mono ?_
  rintro e w1 ⟨rfl, hrd1, ho1⟩
  have L1 := (Lb.new w _ 350).oth ho1 (by omega)
  have O1 := ((Oth.refl b w).alloc _).trans ho1
  go_wp2_with fail
  refine (PR.of_some (op_any b q1 s _ (by exact hrd1) hz hs1) H2.out).mono ?_
  rintro e w2 ⟨rfl, hrd2, ho2⟩
  have L2 := L1.oth ho2 (by omega)
  have O2 := O1.trans ho2
  have M2 := Lb.new w2 #[.int .u8 c.toNat, .int .i64 o, .int .u8 0, .int .i64 0] 350
  have hao : ∀ ob k, ((w2.alloc ob).drewN k).cell? ⟨b, 1, none⟩ = some (.int .i64 q2) := fun ob _ => (hrd2.alloc ob).ha
  have hfo : ∀ ob k, ((w2.alloc ob).drewN k).frozen? ⟨b, 1, none⟩ = false := fun ob _ => (hrd2.alloc ob).hf
  have hb2 := hrd2.hb
  have z2 := L2.lt
  have hne : ¬ w2.heap.size = w.heap.size := by omega
  have hne1 : ¬ w.heap.size = w2.heap.size := by omega
  go_wp2_with fail
  refine (peek_any b q2 s _ (by exact hrd2.alloc _) hz hs2 C H3.out).mono ?_
  rintro e w3 ⟨rfl, k3, rfl⟩
  go_wp2_with fail
  refine (one_some b q2 q3 s 97 122 d.toNat 97 122 d _ (by exact ((hrd2.alloc _).drewN _)) hz hs2 rfl rfl H4.out rfl).mono ?_
  rintro e w4 ⟨rfl, hrd4, ho4⟩
  have L4 := ((L2.alloc (.cells #[.int .u8 c.toNat, .int .i64 o, .int .u8 0, .int .i64 0] 350)).drewN k3).oth ho4 (by omega)
  have M4 := (M2.drewN k3).oth ho4 (by omega)
  have O4 := ((O2.alloc _).drewN _).trans ho4
  have hb4 := hrd4.hb
  clear hat hao hfo
  clear ho4
  have c4_0 := M4.cell 0 _ rfl
  have c4_1 := M4.cell 1 _ rfl
  have c4_2 := M4.cell 2 _ rfl
  have c4_3 := M4.cell 3 _ rfl
  have f4 := fun i => M4.frozen i
  go_wp2_with fail
  refine (has_is b q3 q3 s 43 43 false _ (by exact (hrd4.other _ _ (by simp; omega))) hz hs3 rfl H5.out rfl).mono ?_
  rintro e w5 ⟨rfl, hrd5, ho5⟩
  have L5 := (L4.other ⟨w2.heap.size, 2, none⟩ (.int .u8 d.toNat) hne1).oth ho5 (by omega)
  have M5 := (M4.set 2 (.int .u8 d.toNat)).oth ho5 (by omega)
  have O5 := (O4.new (by omega) _).trans ho5
  have hb5 := hrd5.hb
  clear ho5
  have c5_0 := M5.cell 0 _ rfl
  have c5_1 := M5.cell 1 _ rfl
  have c5_2 := M5.cell 2 _ rfl
  have c5_3 := M5.cell 3 _ rfl
  have f5 := fun i => M5.frozen i
  go_wp2_with fail
  refine (has_is b q3 (q3 + 1) s 45 45 true _ (by exact hrd5) hz hs3 rfl H6.out rfl).mono ?_
  rintro e w6 ⟨rfl, hrd6, ho6⟩
  have L6 := L5.oth ho6 (by omega)
  have M6 := M5.oth ho6 (by omega)
  have O6 := O5.trans ho6
  have hb6 := hrd6.hb
  clear ho6
  have c6_0 := M6.cell 0 _ rfl
  have c6_1 := M6.cell 1 _ rfl
  have c6_2 := M6.cell 2 _ rfl
  have c6_3 := M6.cell 3 _ rfl
  have f6 := fun i => M6.frozen i
  go_wp2_with fail
  refine (PR.of_some (number_any b (q3 + 1) s 49 49 _ (by exact hrd6) hz hs4 rfl (by decide)) H7.out).mono ?_
  rintro e w7 ⟨rfl, hrd7, ho7⟩
  have L7 := L6.oth ho7 (by omega)
  have M7 := M6.oth ho7 (by omega)
  have O7 := O6.trans ho7
  have hb7 := hrd7.hb
  clear ho7
  have c7_0 := M7.cell 0 _ rfl
  have c7_1 := M7.cell 1 _ rfl
  have c7_2 := M7.cell 2 _ rfl
  have c7_3 := M7.cell 3 _ rfl
  have f7 := fun i => M7.frozen i
  have d7_0 := L7.cell 0 _ rfl
  have d7_1 := L7.cell 1 _ rfl
  have d7_2 := L7.cell 2 _ rfl
  have d7_3 := L7.cell 3 _ rfl
  have g7 := fun i => L7.frozen i
  go_wp2
  have LF := (((((L7.other ⟨w2.heap.size, 3, none⟩ (.int .i64 (-v)) hne1).set 0 (.int .u8 c.toNat)).set 1 (.int .i64 o)).set 2 (.int .u8 d.toNat)).set 3 (.int .i64 (-v)))
  have e0 := LF.cell 0 _ rfl
  have e1 := LF.cell 1 _ rfl
  have e2 := LF.cell 2 _ rfl
  have e3 := LF.cell 3 _ rfl
  refine bodyPost_ret (v := encC ⟨c, o, d, -v⟩) (by simp only [results, Tryz.results254]; simp [go_sem, e0, e1, e2, e3, encC]) rfl ⟨rfl, ?_, ?_⟩
  · exact (((((hrd7.other _ _ (by simp; omega)).other _ _ (by simp; omega)).other _ _ (by simp; omega)).other _ _ (by simp; omega)).other _ _ (by simp; omega))
  · exact (((((O7.new (by omega) _).new (by omega) _).new (by omega) _).new (by omega) _).new (by omega) _)

set_option maxHeartbeats 1000000 in
theorem cond_less_bad_hi (b n q1 q2 q3 : Nat) (s : ByteArray) (c d : UInt8) (o : Int) (ahead : Int) (w : World) (h : Rd w b s n) (hz : s.size ≤ 4096) (hn : n ≤ s.size) (ha : (ahead == 16) = false) (h1 : Pat.one s.data.toList 97 122 n = some (c, q1)) (h2 : Pat.op s.data.toList q1 = some (o, q2)) (C : Int) (h3 : pk s q2 = C) (hC : (C == 45) = false) (hC1 : 48 ≤ C) (hC2 : ¬ C ≤ 57) (h4 : Pat.one s.data.toList 97 122 q2 = some (d, q3)) (h5 : Pat.isB s.data.toList 43 43 q3 = false) (h6 : Pat.isB s.data.toList 45 45 q3 = true) (h7 : Pat.number s.data.toList 49 (q3 + 1) = none) :
    Calls Tryz.prog 254 #[.pointer (some ⟨b, 0, none⟩), .int .i64 ahead] w fun e w' => Fault e ∧ Oth b w w' := by
  have hs1 := one_sz h1
  have hs2 := (op_sz hs1 h2).1
  have hs3 := one_sz h4
  have hs4 := isB_le h6
  have hat : ∀ o, (w.alloc o).cell? ⟨b, 1, none⟩ = some (.int .i64 n) := fun o => (h.alloc o).ha
  have hbb := h.hb
  have H1 := Lib.hid h1
  have H2 := Lib.hid h2
  have H3 := Lib.hid h3
  have H4 := Lib.hid h4
  have H5 := Lib.hid h5
  have H6 := Lib.hid h6
  have H7 := Lib.hid h7
  clear h1 h2 h3 h4 h5 h6 h7
  go_enter Tryz.func254, Tryz.ntmps254
  go_wp2_with fail
  refine (one_some b n q1 s 97 122 c.toNat 97 122 c _ (by exact h.alloc _) hz hn rfl rfl H1.out rfl).mono ?_
  rintro e w1 ⟨rfl, hrd1, ho1⟩
  have L1 := (Lb.new w _ 350).oth ho1 (by omega)
  have O1 := ((Oth.refl b w).alloc _).trans ho1
  go_wp2_with fail
  refine (PR.of_some (op_any b q1 s _ (by exact hrd1) hz hs1) H2.out).mono ?_
  rintro e w2 ⟨rfl, hrd2, ho2⟩
  have L2 := L1.oth ho2 (by omega)
  have O2 := O1.trans ho2
  have M2 := Lb.new w2 #[.int .u8 c.toNat, .int .i64 o, .int .u8 0, .int .i64 0] 350
  have hao : ∀ ob k, ((w2.alloc ob).drewN k).cell? ⟨b, 1, none⟩ = some (.int .i64 q2) := fun ob _ => (hrd2.alloc ob).ha
  have hfo : ∀ ob k, ((w2.alloc ob).drewN k).frozen? ⟨b, 1, none⟩ = false := fun ob _ => (hrd2.alloc ob).hf
  have hb2 := hrd2.hb
  have z2 := L2.lt
  have hne : ¬ w2.heap.size = w.heap.size := by omega
  have hne1 : ¬ w.heap.size = w2.heap.size := by omega
  go_wp2_with fail
  refine (peek_any b q2 s _ (by exact hrd2.alloc _) hz hs2 C H3.out).mono ?_
  rintro e w3 ⟨rfl, k3, rfl⟩
  go_wp2_with fail
  refine (one_some b q2 q3 s 97 122 d.toNat 97 122 d _ (by exact ((hrd2.alloc _).drewN _)) hz hs2 rfl rfl H4.out rfl).mono ?_
  rintro e w4 ⟨rfl, hrd4, ho4⟩
  have L4 := ((L2.alloc (.cells #[.int .u8 c.toNat, .int .i64 o, .int .u8 0, .int .i64 0] 350)).drewN k3).oth ho4 (by omega)
  have M4 := (M2.drewN k3).oth ho4 (by omega)
  have O4 := ((O2.alloc _).drewN _).trans ho4
  have hb4 := hrd4.hb
  clear hat hao hfo
  clear ho4
  have c4_0 := M4.cell 0 _ rfl
  have c4_1 := M4.cell 1 _ rfl
  have c4_2 := M4.cell 2 _ rfl
  have c4_3 := M4.cell 3 _ rfl
  have f4 := fun i => M4.frozen i
  go_wp2_with fail
  refine (has_is b q3 q3 s 43 43 false _ (by exact (hrd4.other _ _ (by simp; omega))) hz hs3 rfl H5.out rfl).mono ?_
  rintro e w5 ⟨rfl, hrd5, ho5⟩
  have L5 := (L4.other ⟨w2.heap.size, 2, none⟩ (.int .u8 d.toNat) hne1).oth ho5 (by omega)
  have M5 := (M4.set 2 (.int .u8 d.toNat)).oth ho5 (by omega)
  have O5 := (O4.new (by omega) _).trans ho5
  have hb5 := hrd5.hb
  clear ho5
  have c5_0 := M5.cell 0 _ rfl
  have c5_1 := M5.cell 1 _ rfl
  have c5_2 := M5.cell 2 _ rfl
  have c5_3 := M5.cell 3 _ rfl
  have f5 := fun i => M5.frozen i
  go_wp2_with fail
  refine (has_is b q3 (q3 + 1) s 45 45 true _ (by exact hrd5) hz hs3 rfl H6.out rfl).mono ?_
  rintro e w6 ⟨rfl, hrd6, ho6⟩
  have L6 := L5.oth ho6 (by omega)
  have M6 := M5.oth ho6 (by omega)
  have O6 := O5.trans ho6
  have hb6 := hrd6.hb
  clear ho6
  have c6_0 := M6.cell 0 _ rfl
  have c6_1 := M6.cell 1 _ rfl
  have c6_2 := M6.cell 2 _ rfl
  have c6_3 := M6.cell 3 _ rfl
  have f6 := fun i => M6.frozen i
  go_wp2_with fail
  refine (PR.of_none (number_any b (q3 + 1) s 49 49 _ (by exact hrd6) hz hs4 rfl (by decide)) H7.out).mono ?_
  rintro e w7 ⟨⟨a, c, rfl, hb⟩, ho7⟩
  exact ⟨rfl, ⟨_, _, rfl, hb⟩, O6.trans ho7⟩

set_option maxHeartbeats 1000000 in
theorem cond_name_hi (b n q1 q2 q3 : Nat) (s : ByteArray) (c d : UInt8) (o : Int) (ahead : Int) (w : World) (h : Rd w b s n) (hz : s.size ≤ 4096) (hn : n ≤ s.size) (ha : (ahead == 16) = false) (h1 : Pat.one s.data.toList 97 122 n = some (c, q1)) (h2 : Pat.op s.data.toList q1 = some (o, q2)) (C : Int) (h3 : pk s q2 = C) (hC : (C == 45) = false) (hC1 : 48 ≤ C) (hC2 : ¬ C ≤ 57) (h4 : Pat.one s.data.toList 97 122 q2 = some (d, q3)) (h5 : Pat.isB s.data.toList 43 43 q3 = false) (h6 : Pat.isB s.data.toList 45 45 q3 = false) :
    Calls Tryz.prog 254 #[.pointer (some ⟨b, 0, none⟩), .int .i64 ahead] w fun e w' => e = .returned (encC ⟨c, o, d, 0⟩) ∧ Rd w' b s q3 ∧ Oth b w w' := by
  have hs1 := one_sz h1
  have hs2 := (op_sz hs1 h2).1
  have hs3 := one_sz h4
  have hat : ∀ o, (w.alloc o).cell? ⟨b, 1, none⟩ = some (.int .i64 n) := fun o => (h.alloc o).ha
  have hbb := h.hb
  have H1 := Lib.hid h1
  have H2 := Lib.hid h2
  have H3 := Lib.hid h3
  have H4 := Lib.hid h4
  have H5 := Lib.hid h5
  have H6 := Lib.hid h6
  clear h1 h2 h3 h4 h5 h6
  go_enter Tryz.func254, Tryz.ntmps254
  go_wp2_with fail
  refine (one_some b n q1 s 97 122 c.toNat 97 122 c _ (by exact h.alloc _) hz hn rfl rfl H1.out rfl).mono ?_
  rintro e w1 ⟨rfl, hrd1, ho1⟩
  have L1 := (Lb.new w _ 350).oth ho1 (by omega)
  have O1 := ((Oth.refl b w).alloc _).trans ho1
  go_wp2_with fail
  refine (PR.of_some (op_any b q1 s _ (by exact hrd1) hz hs1) H2.out).mono ?_
  rintro e w2 ⟨rfl, hrd2, ho2⟩
  have L2 := L1.oth ho2 (by omega)
  have O2 := O1.trans ho2
  have M2 := Lb.new w2 #[.int .u8 c.toNat, .int .i64 o, .int .u8 0, .int .i64 0] 350
  have hao : ∀ ob k, ((w2.alloc ob).drewN k).cell? ⟨b, 1, none⟩ = some (.int .i64 q2) := fun ob _ => (hrd2.alloc ob).ha
  have hfo : ∀ ob k, ((w2.alloc ob).drewN k).frozen? ⟨b, 1, none⟩ = false := fun ob _ => (hrd2.alloc ob).hf
  have hb2 := hrd2.hb
  have z2 := L2.lt
  have hne : ¬ w2.heap.size = w.heap.size := by omega
  have hne1 : ¬ w.heap.size = w2.heap.size := by omega
  go_wp2_with fail
  refine (peek_any b q2 s _ (by exact hrd2.alloc _) hz hs2 C H3.out).mono ?_
  rintro e w3 ⟨rfl, k3, rfl⟩
  go_wp2_with fail
  refine (one_some b q2 q3 s 97 122 d.toNat 97 122 d _ (by exact ((hrd2.alloc _).drewN _)) hz hs2 rfl rfl H4.out rfl).mono ?_
  rintro e w4 ⟨rfl, hrd4, ho4⟩
  have L4 := ((L2.alloc (.cells #[.int .u8 c.toNat, .int .i64 o, .int .u8 0, .int .i64 0] 350)).drewN k3).oth ho4 (by omega)
  have M4 := (M2.drewN k3).oth ho4 (by omega)
  have O4 := ((O2.alloc _).drewN _).trans ho4
  have hb4 := hrd4.hb
  clear hat hao hfo
  clear ho4
  have c4_0 := M4.cell 0 _ rfl
  have c4_1 := M4.cell 1 _ rfl
  have c4_2 := M4.cell 2 _ rfl
  have c4_3 := M4.cell 3 _ rfl
  have f4 := fun i => M4.frozen i
  go_wp2_with fail
  refine (has_is b q3 q3 s 43 43 false _ (by exact (hrd4.other _ _ (by simp; omega))) hz hs3 rfl H5.out rfl).mono ?_
  rintro e w5 ⟨rfl, hrd5, ho5⟩
  have L5 := (L4.other ⟨w2.heap.size, 2, none⟩ (.int .u8 d.toNat) hne1).oth ho5 (by omega)
  have M5 := (M4.set 2 (.int .u8 d.toNat)).oth ho5 (by omega)
  have O5 := (O4.new (by omega) _).trans ho5
  have hb5 := hrd5.hb
  clear ho5
  have c5_0 := M5.cell 0 _ rfl
  have c5_1 := M5.cell 1 _ rfl
  have c5_2 := M5.cell 2 _ rfl
  have c5_3 := M5.cell 3 _ rfl
  have f5 := fun i => M5.frozen i
  go_wp2_with fail
  refine (has_is b q3 q3 s 45 45 false _ (by exact hrd5) hz hs3 rfl H6.out rfl).mono ?_
  rintro e w6 ⟨rfl, hrd6, ho6⟩
  have L6 := L5.oth ho6 (by omega)
  have M6 := M5.oth ho6 (by omega)
  have O6 := O5.trans ho6
  have hb6 := hrd6.hb
  clear ho6
  have c6_0 := M6.cell 0 _ rfl
  have c6_1 := M6.cell 1 _ rfl
  have c6_2 := M6.cell 2 _ rfl
  have c6_3 := M6.cell 3 _ rfl
  have f6 := fun i => M6.frozen i
  have d6_0 := L6.cell 0 _ rfl
  have d6_1 := L6.cell 1 _ rfl
  have d6_2 := L6.cell 2 _ rfl
  have d6_3 := L6.cell 3 _ rfl
  have g6 := fun i => L6.frozen i
  go_wp2
  have LF := ((((L6.set 0 (.int .u8 c.toNat)).set 1 (.int .i64 o)).set 2 (.int .u8 d.toNat)).set 3 (.int .i64 0))
  have e0 := LF.cell 0 _ rfl
  have e1 := LF.cell 1 _ rfl
  have e2 := LF.cell 2 _ rfl
  have e3 := LF.cell 3 _ rfl
  refine bodyPost_ret (v := encC ⟨c, o, d, 0⟩) (by simp only [results, Tryz.results254]; simp [go_sem, e0, e1, e2, e3, encC]) rfl ⟨rfl, ?_, ?_⟩
  · exact ((((hrd6.other _ _ (by simp; omega)).other _ _ (by simp; omega)).other _ _ (by simp; omega)).other _ _ (by simp; omega))
  · exact ((((O6.new (by omega) _).new (by omega) _).new (by omega) _).new (by omega) _)

end Go.Proofs.YthbiiccblcoogaaGreatDoor
