/- The program's reader of patterns: op. -/
import Derived.Test.YthbiiccblcoogaaGreatDoorPatD
set_option linter.unusedVariables false
set_option linter.unusedSimpArgs false
namespace Go.Proofs.YthbiiccblcoogaaGreatDoor
open Go.RowKit
set_option maxHeartbeats 1000000 in
theorem op_lt_eq (b n : Nat) (s : ByteArray) (w : World) (h : Rd w b s n) (hz : s.size ≤ 4096) (hn : n ≤ s.size) (h60 : Pat.isB s.data.toList 60 60 n = true) (he : Pat.isB s.data.toList 61 61 (n + 1) = true) :
    Calls Tryz.prog 335 #[.pointer (some ⟨b, 0, none⟩)] w fun e w' => e = .returned (.int .i64 1) ∧ Rd w' b s (n + 2) ∧ Oth b w w' := by
  have hn1 := isB_le h60
  have H60 := Lib.hid h60
  have HE := Lib.hid he
  clear h60 he
  go_enter Tryz.func335, Tryz.ntmps335
  go_wp2_with fail
  refine (has_is b n (n + 1) s 60 60 true _ (by exact h) hz hn rfl H60.out rfl).mono ?_
  rintro e w1 ⟨rfl, hrd1, ho1⟩
  go_wp2_with fail
  refine (has_is b (n + 1) (n + 2) s 61 61 true _ (by exact hrd1) hz hn1 rfl HE.out rfl).mono ?_
  rintro e w2 ⟨rfl, hrd2, ho2⟩
  go_wp2
  go_ret
  exact ⟨rfl, hrd2, (ho1.trans ho2)⟩

set_option maxHeartbeats 1000000 in
theorem op_lt_no (b n : Nat) (s : ByteArray) (w : World) (h : Rd w b s n) (hz : s.size ≤ 4096) (hn : n ≤ s.size) (h60 : Pat.isB s.data.toList 60 60 n = true) (he : Pat.isB s.data.toList 61 61 (n + 1) = false) :
    Calls Tryz.prog 335 #[.pointer (some ⟨b, 0, none⟩)] w fun e w' => e = .returned (.int .i64 0) ∧ Rd w' b s (n + 1) ∧ Oth b w w' := by
  have hn1 := isB_le h60
  have H60 := Lib.hid h60
  have HE := Lib.hid he
  clear h60 he
  go_enter Tryz.func335, Tryz.ntmps335
  go_wp2_with fail
  refine (has_is b n (n + 1) s 60 60 true _ (by exact h) hz hn rfl H60.out rfl).mono ?_
  rintro e w1 ⟨rfl, hrd1, ho1⟩
  go_wp2_with fail
  refine (has_is b (n + 1) (n + 1) s 61 61 false _ (by exact hrd1) hz hn1 rfl HE.out rfl).mono ?_
  rintro e w2 ⟨rfl, hrd2, ho2⟩
  go_wp2
  go_ret
  exact ⟨rfl, hrd2, (ho1.trans ho2)⟩

set_option maxHeartbeats 1000000 in
theorem op_gt_eq (b n : Nat) (s : ByteArray) (w : World) (h : Rd w b s n) (hz : s.size ≤ 4096) (hn : n ≤ s.size) (h60 : Pat.isB s.data.toList 60 60 n = false) (h62 : Pat.isB s.data.toList 62 62 n = true) (he : Pat.isB s.data.toList 61 61 (n + 1) = true) :
    Calls Tryz.prog 335 #[.pointer (some ⟨b, 0, none⟩)] w fun e w' => e = .returned (.int .i64 4) ∧ Rd w' b s (n + 2) ∧ Oth b w w' := by
  have hn1 := isB_le h62
  have H60 := Lib.hid h60
  have H62 := Lib.hid h62
  have HE := Lib.hid he
  clear h60 h62 he
  go_enter Tryz.func335, Tryz.ntmps335
  go_wp2_with fail
  refine (has_is b n n s 60 60 false _ (by exact h) hz hn rfl H60.out rfl).mono ?_
  rintro e w1 ⟨rfl, hrd1, ho1⟩
  go_wp2_with fail
  refine (has_is b n (n + 1) s 62 62 true _ (by exact hrd1) hz hn rfl H62.out rfl).mono ?_
  rintro e w2 ⟨rfl, hrd2, ho2⟩
  go_wp2_with fail
  refine (has_is b (n + 1) (n + 2) s 61 61 true _ (by exact hrd2) hz hn1 rfl HE.out rfl).mono ?_
  rintro e w3 ⟨rfl, hrd3, ho3⟩
  go_wp2
  go_ret
  exact ⟨rfl, hrd3, ((ho1.trans ho2).trans ho3)⟩

set_option maxHeartbeats 1000000 in
theorem op_gt_no (b n : Nat) (s : ByteArray) (w : World) (h : Rd w b s n) (hz : s.size ≤ 4096) (hn : n ≤ s.size) (h60 : Pat.isB s.data.toList 60 60 n = false) (h62 : Pat.isB s.data.toList 62 62 n = true) (he : Pat.isB s.data.toList 61 61 (n + 1) = false) :
    Calls Tryz.prog 335 #[.pointer (some ⟨b, 0, none⟩)] w fun e w' => e = .returned (.int .i64 5) ∧ Rd w' b s (n + 1) ∧ Oth b w w' := by
  have hn1 := isB_le h62
  have H60 := Lib.hid h60
  have H62 := Lib.hid h62
  have HE := Lib.hid he
  clear h60 h62 he
  go_enter Tryz.func335, Tryz.ntmps335
  go_wp2_with fail
  refine (has_is b n n s 60 60 false _ (by exact h) hz hn rfl H60.out rfl).mono ?_
  rintro e w1 ⟨rfl, hrd1, ho1⟩
  go_wp2_with fail
  refine (has_is b n (n + 1) s 62 62 true _ (by exact hrd1) hz hn rfl H62.out rfl).mono ?_
  rintro e w2 ⟨rfl, hrd2, ho2⟩
  go_wp2_with fail
  refine (has_is b (n + 1) (n + 1) s 61 61 false _ (by exact hrd2) hz hn1 rfl HE.out rfl).mono ?_
  rintro e w3 ⟨rfl, hrd3, ho3⟩
  go_wp2
  go_ret
  exact ⟨rfl, hrd3, ((ho1.trans ho2).trans ho3)⟩

set_option maxHeartbeats 1000000 in
theorem op_not (b n q : Nat) (s : ByteArray) (w : World) (h : Rd w b s n) (hz : s.size ≤ 4096) (hn : n ≤ s.size) (h60 : Pat.isB s.data.toList 60 60 n = false) (h62 : Pat.isB s.data.toList 62 62 n = false) (h33 : Pat.isB s.data.toList 33 33 n = true) (hx : Pat.word s.data.toList (ByteArray.mk #[61]).data.toList (n + 1) = some q) :
    Calls Tryz.prog 335 #[.pointer (some ⟨b, 0, none⟩)] w fun e w' => e = .returned (.int .i64 3) ∧ Rd w' b s (q) ∧ Oth b w w' := by
  have hn1 := isB_le h33
  have H60 := Lib.hid h60
  have H62 := Lib.hid h62
  have H33 := Lib.hid h33
  have HX := Lib.hid hx
  clear h60 h62 h33 hx
  go_enter Tryz.func335, Tryz.ntmps335
  go_wp2_with fail
  refine (has_is b n n s 60 60 false _ (by exact h) hz hn rfl H60.out rfl).mono ?_
  rintro e w1 ⟨rfl, hrd1, ho1⟩
  go_wp2_with fail
  refine (has_is b n n s 62 62 false _ (by exact hrd1) hz hn rfl H62.out rfl).mono ?_
  rintro e w2 ⟨rfl, hrd2, ho2⟩
  go_wp2_with fail
  refine (has_is b n (n + 1) s 33 33 true _ (by exact hrd2) hz hn rfl H33.out rfl).mono ?_
  rintro e w3 ⟨rfl, hrd3, ho3⟩
  go_wp2_with fail
  refine (word_some b (n + 1) q s _ _ (by exact hrd3) hz (by decide) hn1 HX.out).mono ?_
  rintro e w4 ⟨rfl, hrd4, ho4⟩
  go_wp2
  go_ret
  exact ⟨rfl, hrd4, (((ho1.trans ho2).trans ho3).trans ho4)⟩

set_option maxHeartbeats 1000000 in
theorem op_not_bad (b n : Nat) (s : ByteArray) (w : World) (h : Rd w b s n) (hz : s.size ≤ 4096) (hn : n ≤ s.size) (h60 : Pat.isB s.data.toList 60 60 n = false) (h62 : Pat.isB s.data.toList 62 62 n = false) (h33 : Pat.isB s.data.toList 33 33 n = true) (hx : Pat.word s.data.toList (ByteArray.mk #[61]).data.toList (n + 1) = none) :
    Calls Tryz.prog 335 #[.pointer (some ⟨b, 0, none⟩)] w fun e w' => Fault e ∧ Oth b w w' := by
  have hn1 := isB_le h33
  have H60 := Lib.hid h60
  have H62 := Lib.hid h62
  have H33 := Lib.hid h33
  have HX := Lib.hid hx
  clear h60 h62 h33 hx
  go_enter Tryz.func335, Tryz.ntmps335
  go_wp2_with fail
  refine (has_is b n n s 60 60 false _ (by exact h) hz hn rfl H60.out rfl).mono ?_
  rintro e w1 ⟨rfl, hrd1, ho1⟩
  go_wp2_with fail
  refine (has_is b n n s 62 62 false _ (by exact hrd1) hz hn rfl H62.out rfl).mono ?_
  rintro e w2 ⟨rfl, hrd2, ho2⟩
  go_wp2_with fail
  refine (has_is b n (n + 1) s 33 33 true _ (by exact hrd2) hz hn rfl H33.out rfl).mono ?_
  rintro e w3 ⟨rfl, hrd3, ho3⟩
  go_wp2_with fail
  refine (word_none b (n + 1) s _ _ (by exact hrd3) hz (by decide) hn1 HX.out).mono ?_
  rintro e w4 ⟨⟨a, c, rfl, hb⟩, ho4⟩
  exact ⟨rfl, ⟨_, _, rfl, hb⟩, (((ho1.trans ho2).trans ho3).trans ho4)⟩

set_option maxHeartbeats 1000000 in
theorem op_is (b n q : Nat) (s : ByteArray) (w : World) (h : Rd w b s n) (hz : s.size ≤ 4096) (hn : n ≤ s.size) (h60 : Pat.isB s.data.toList 60 60 n = false) (h62 : Pat.isB s.data.toList 62 62 n = false) (h33 : Pat.isB s.data.toList 33 33 n = false) (hx : Pat.word s.data.toList (ByteArray.mk #[61]).data.toList n = some q) :
    Calls Tryz.prog 335 #[.pointer (some ⟨b, 0, none⟩)] w fun e w' => e = .returned (.int .i64 2) ∧ Rd w' b s (q) ∧ Oth b w w' := by
  have H60 := Lib.hid h60
  have H62 := Lib.hid h62
  have H33 := Lib.hid h33
  have HX := Lib.hid hx
  clear h60 h62 h33 hx
  go_enter Tryz.func335, Tryz.ntmps335
  go_wp2_with fail
  refine (has_is b n n s 60 60 false _ (by exact h) hz hn rfl H60.out rfl).mono ?_
  rintro e w1 ⟨rfl, hrd1, ho1⟩
  go_wp2_with fail
  refine (has_is b n n s 62 62 false _ (by exact hrd1) hz hn rfl H62.out rfl).mono ?_
  rintro e w2 ⟨rfl, hrd2, ho2⟩
  go_wp2_with fail
  refine (has_is b n n s 33 33 false _ (by exact hrd2) hz hn rfl H33.out rfl).mono ?_
  rintro e w3 ⟨rfl, hrd3, ho3⟩
  go_wp2_with fail
  refine (word_some b n q s _ _ (by exact hrd3) hz (by decide) hn HX.out).mono ?_
  rintro e w4 ⟨rfl, hrd4, ho4⟩
  go_wp2
  go_ret
  exact ⟨rfl, hrd4, (((ho1.trans ho2).trans ho3).trans ho4)⟩

set_option maxHeartbeats 1000000 in
theorem op_is_bad (b n : Nat) (s : ByteArray) (w : World) (h : Rd w b s n) (hz : s.size ≤ 4096) (hn : n ≤ s.size) (h60 : Pat.isB s.data.toList 60 60 n = false) (h62 : Pat.isB s.data.toList 62 62 n = false) (h33 : Pat.isB s.data.toList 33 33 n = false) (hx : Pat.word s.data.toList (ByteArray.mk #[61]).data.toList n = none) :
    Calls Tryz.prog 335 #[.pointer (some ⟨b, 0, none⟩)] w fun e w' => Fault e ∧ Oth b w w' := by
  have H60 := Lib.hid h60
  have H62 := Lib.hid h62
  have H33 := Lib.hid h33
  have HX := Lib.hid hx
  clear h60 h62 h33 hx
  go_enter Tryz.func335, Tryz.ntmps335
  go_wp2_with fail
  refine (has_is b n n s 60 60 false _ (by exact h) hz hn rfl H60.out rfl).mono ?_
  rintro e w1 ⟨rfl, hrd1, ho1⟩
  go_wp2_with fail
  refine (has_is b n n s 62 62 false _ (by exact hrd1) hz hn rfl H62.out rfl).mono ?_
  rintro e w2 ⟨rfl, hrd2, ho2⟩
  go_wp2_with fail
  refine (has_is b n n s 33 33 false _ (by exact hrd2) hz hn rfl H33.out rfl).mono ?_
  rintro e w3 ⟨rfl, hrd3, ho3⟩
  go_wp2_with fail
  refine (word_none b n s _ _ (by exact hrd3) hz (by decide) hn HX.out).mono ?_
  rintro e w4 ⟨⟨a, c, rfl, hb⟩, ho4⟩
  exact ⟨rfl, ⟨_, _, rfl, hb⟩, (((ho1.trans ho2).trans ho3).trans ho4)⟩
theorem op_any (b n : Nat) (s : ByteArray) (w : World) (h : Rd w b s n) (hz : s.size ≤ 4096) (hn : n ≤ s.size) :
    Calls Tryz.prog 335 #[.pointer (some ⟨b, 0, none⟩)] w (PR b s w (Value.int .i64) (Pat.op s.data.toList n)) := by
  rcases h60 : Pat.isB s.data.toList 60 60 n with _ | _
  · rcases h62 : Pat.isB s.data.toList 62 62 n with _ | _
    · rcases h33 : Pat.isB s.data.toList 33 33 n with _ | _
      · rcases hx : Pat.one s.data.toList 61 61 n with _ | ⟨c, q⟩
        · exact PR.none_of (by simp only [Pat.op, h60, h62, h33, hx, if_false, Bool.false_eq_true]) (op_is_bad b n s w h hz hn h60 h62 h33 (by rw [word_one, hx]; rfl))
        · exact PR.some_of (by simp only [Pat.op, h60, h62, h33, hx, if_false, Bool.false_eq_true]) (op_is b n q s w h hz hn h60 h62 h33 (by rw [word_one, hx]; rfl))
      · rcases hx : Pat.one s.data.toList 61 61 (n + 1) with _ | ⟨c, q⟩
        · exact PR.none_of (by simp only [Pat.op, h60, h62, h33, hx, if_false, if_true, Bool.false_eq_true]) (op_not_bad b n s w h hz hn h60 h62 h33 (by rw [word_one, hx]; rfl))
        · exact PR.some_of (by simp only [Pat.op, h60, h62, h33, hx, if_false, if_true, Bool.false_eq_true]) (op_not b n q s w h hz hn h60 h62 h33 (by rw [word_one, hx]; rfl))
    · rcases he : Pat.isB s.data.toList 61 61 (n + 1) with _ | _
      · exact PR.some_of (by simp only [Pat.op, h60, h62, he, if_false, if_true, Bool.false_eq_true]) (op_gt_no b n s w h hz hn h60 h62 he)
      · exact PR.some_of (by simp only [Pat.op, h60, h62, he, if_false, if_true, Bool.false_eq_true]) (op_gt_eq b n s w h hz hn h60 h62 he)
  · rcases he : Pat.isB s.data.toList 61 61 (n + 1) with _ | _
    · exact PR.some_of (by simp only [Pat.op, h60, he, if_false, if_true, Bool.false_eq_true]) (op_lt_no b n s w h hz hn h60 he)
    · exact PR.some_of (by simp only [Pat.op, h60, he, if_true]) (op_lt_eq b n s w h hz hn h60 he)

theorem op_sz {s : ByteArray} {n q : Nat} {v : Int} (hn : n ≤ s.size) (h : Pat.op s.data.toList n = some (v, q)) : q ≤ s.size ∧ 0 ≤ v ∧ v ≤ 5 := by
  unfold Pat.op at h
  split at h
  · rename_i h1
    have hb := isB_le h1
    split at h
    · rename_i h2; have := isB_le h2; simp only [Option.some.injEq, Prod.mk.injEq] at h; omega
    · simp only [Option.some.injEq, Prod.mk.injEq] at h; omega
  · split at h
    · rename_i h1
      have hb := isB_le h1
      split at h
      · rename_i h2; have := isB_le h2; simp only [Option.some.injEq, Prod.mk.injEq] at h; omega
      · simp only [Option.some.injEq, Prod.mk.injEq] at h; omega
    · split at h
      · rename_i h1
        cases hx : Pat.one s.data.toList 61 61 (n + 1) with
        | none => rw [hx] at h; cases h
        | some x => obtain ⟨c, p⟩ := x; rw [hx] at h; have := one_sz hx; simp only [Option.some.injEq, Prod.mk.injEq] at h; omega
      · cases hx : Pat.one s.data.toList 61 61 n with
        | none => rw [hx] at h; cases h
        | some x => obtain ⟨c, p⟩ := x; rw [hx] at h; have := one_sz hx; simp only [Option.some.injEq, Prod.mk.injEq] at h; omega
end Go.Proofs.YthbiiccblcoogaaGreatDoor

/- Words for a call that makes its result, and a struct of its own, in memory. -/
namespace Go.Proofs.YthbiiccblcoogaaGreatDoor
open Go.RowKit

/-- A block known whole. -/
def Lb (W : World) (B : Nat) (z : Array Value) (T : TypeId) : Prop := W.heap[B]? = some (.cells z T)
theorem Lb.cell {W : World} {B T : Nat} {z : Array Value} (h : Lb W B z T) (i : Nat) (v : Value) (hv : z[i]? = some v) : W.cell? ⟨B, i, none⟩ = some v := by
  unfold Lb at h; simp [World.cell?, h, hv]
theorem Lb.frozen {W : World} {B T : Nat} {z : Array Value} (h : Lb W B z T) (i : Nat) : W.frozen? ⟨B, i, none⟩ = false := by
  unfold Lb at h; simp [World.frozen?, h]
theorem Lb.lt {W : World} {B T : Nat} {z : Array Value} (h : Lb W B z T) : B < W.heap.size := by
  unfold Lb at h; exact (Array.getElem?_eq_some_iff.1 h).1
theorem Lb.new (W : World) (z : Array Value) (T : TypeId) : Lb (W.alloc (.cells z T)) W.heap.size z T := by
  show (W.heap.push _)[W.heap.size]? = _
  simp
theorem Lb.alloc {W : World} {B T : Nat} {z : Array Value} (h : Lb W B z T) (o : Obj) : Lb (W.alloc o) B z T := by
  have := h.lt
  unfold Lb at *
  rw [Below.heap_alloc _ _ _ this]; exact h
theorem Lb.oth {W W' : World} {B T b : Nat} {z : Array Value} (h : Lb W B z T) (ho : Oth b W W') (hb : B ≠ b) : Lb W' B z T := by
  have := h.lt
  unfold Lb at *
  rw [ho.block _ this hb]; exact h
theorem Lb.drewN {W : World} {B T : Nat} {z : Array Value} (h : Lb W B z T) (k : Nat) : Lb (W.drewN k) B z T := h
theorem Lb.set {W : World} {B T : Nat} {z : Array Value} (h : Lb W B z T) (i : Nat) (v : Value) : Lb (W.setCell ⟨B, i, none⟩ v) B (z.setIfInBounds i v) T := by
  have := h.lt
  unfold Lb at *
  simp only [World.setCell, Array.getElem?_modify, if_true, h, Option.map_some]
  rfl
theorem Lb.other {W : World} {B T : Nat} {z : Array Value} (h : Lb W B z T) (p : Addr) (v : Value) (hp : B ≠ p.block) : Lb (W.setCell p v) B z T := by
  unfold Lb at *
  rw [Below.heap_setCell _ _ _ _ hp]; exact h

theorem Rd.alloc {w : World} {b n : Nat} {s : ByteArray} (h : Rd w b s n) (o : Obj) : Rd (w.alloc o) b s n := by
  have e : (w.alloc o).heap[b]? = w.heap[b]? := Below.heap_alloc _ _ _ h.hb
  exact ⟨(World.cell?_of_block (w := w) e).trans h.hs, (World.cell?_of_block (w := w) e).trans h.ha, (World.frozen?_of_block (w := w) e).trans h.hf, by have := h.hb; simp; omega⟩
theorem Rd.other {w : World} {b n : Nat} {s : ByteArray} (h : Rd w b s n) (p : Addr) (v : Value) (hp : b ≠ p.block) : Rd (w.setCell p v) b s n := by
  have e : (w.setCell p v).heap[b]? = w.heap[b]? := Below.heap_setCell _ _ _ _ hp
  exact ⟨(World.cell?_of_block (w := w) e).trans h.hs, (World.cell?_of_block (w := w) e).trans h.ha, (World.frozen?_of_block (w := w) e).trans h.hf, by have := h.hb; simpa using this⟩
theorem Oth.new {b : Nat} {w W : World} (h : Oth b w W) {B i : Nat} (hB : w.heap.size ≤ B) (v : Value) : Oth b w (W.setCell ⟨B, i, none⟩ v) := h.setNew (p := ⟨B, i, none⟩) hB v

/-- The number that a condition's op, a step's kind .. is, as a value. -/
def encC (x : Pat.Cond) : Value := .agg #[.int .u8 x.left.toNat, .int .i64 x.op, .int .u8 x.right.toNat, .int .i64 x.add]
def encS (x : Pat.Step) : Value := .agg #[.int .u8 x.kind.toNat, .int .u8 x.name.toNat, .bool x.neg, .int .i64 x.lo, .int .i64 x.hi]
end Go.Proofs.YthbiiccblcoogaaGreatDoor
