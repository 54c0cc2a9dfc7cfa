/- The program's reader of patterns: peek, one, has. -/
import Derived.Test.YthbiiccblcoogaaGreatDoorBase
set_option linter.unusedVariables false
set_option linter.unusedSimpArgs false
namespace Go.Proofs.YthbiiccblcoogaaGreatDoor
open Go.RowKit

/-- The program's reader: its text, its place. -/
structure Rd (w : World) (b : Nat) (s : ByteArray) (n : Nat) : Prop where
  hs : w.cell? ⟨b, 0, none⟩ = some (.string s)
  ha : w.cell? ⟨b, 1, none⟩ = some (.int .i64 n)
  hf : w.frozen? ⟨b, 1, none⟩ = false
  hb : b < w.heap.size

theorem Rd.drew {w : World} {b n : Nat} {s : ByteArray} (h : Rd w b s n) : Rd w.drew b s n := ⟨h.hs, h.ha, h.hf, h.hb⟩
theorem Rd.drewN {w : World} {b n : Nat} {s : ByteArray} (h : Rd w b s n) (k : Nat) : Rd (w.drewN k) b s n := ⟨h.hs, h.ha, h.hf, h.hb⟩

set_option maxHeartbeats 400000 in
theorem peek_end (b : Nat) (s : ByteArray) (w : World) (hs : w.cell? ⟨b, 0, none⟩ = some (.string s)) (ha : w.cell? ⟨b, 1, none⟩ = some (.int .i64 s.size)) (hz : s.size ≤ 4096) :
    Calls Tryz.prog 334 #[.pointer (some ⟨b, 0, none⟩)] w fun e w' => e = .returned (.int .u8 0) ∧ Dr w w' := by
  go_enter Tryz.func334, Tryz.ntmps334
  go_wp2
  go_quiet (fail)
  go_wp2
  go_ret
  exact ⟨rfl, _, rfl⟩

set_option maxHeartbeats 400000 in
theorem peek_in (b n : Nat) (s : ByteArray) (w : World) (hs : w.cell? ⟨b, 0, none⟩ = some (.string s)) (ha : w.cell? ⟨b, 1, none⟩ = some (.int .i64 n)) (hz : s.size ≤ 4096) (hn : n < s.size) (c : Int) (hc : ((s[n]'hn).toNat : Int) = c) :
    Calls Tryz.prog 334 #[.pointer (some ⟨b, 0, none⟩)] w fun e w' => e = .returned (.int .u8 c) ∧ Dr w w' := by
  have HC := Lib.hid hc
  clear hc
  have hne : ((n : Int) == (s.size : Int)) = false := by rw [beq_eq_false_iff_ne]; omega
  go_enter Tryz.func334, Tryz.ntmps334
  go_wp2
  go_quiet (fail)
  go_wp2
  go_quiet (fail)
  go_wp2
  go_ret
  exact ⟨ret_eq (congrArg (Value.int .u8) HC.out), (Dr.of _ _).drewN _⟩
  
/-- What a fault's number may be. -/
def Bad (c : Int) : Prop := c = 5 ∨ c = 20 ∨ c = 22 ∨ c = 24

def Fault (e : Ending) : Prop := ∃ a c : Int, e = .panicked [{ v := .iface 334 (.agg #[.int .i64 a, .int .i64 c]), recovered := false }] ∧ Bad c

/-- A call of the reader's: its value and its place; or it leaves by a fault. -/
def PR {α : Type} (b : Nat) (s : ByteArray) (w : World) (enc : α → Value) (r : Option (α × Nat)) (e : Ending) (w' : World) : Prop :=
  match r with
  | some (v, q) => e = .returned (enc v) ∧ Rd w' b s q ∧ Oth b w w'
  | none => Fault e ∧ Oth b w w'

set_option maxHeartbeats 400000 in
theorem fail_any (p : Value) (a c : Int) (w : World) :
    Calls Tryz.prog 170 #[p, .int .i64 a, .int .i64 c] w fun e w' => e = .panicked [{ v := .iface 334 (.agg #[.int .i64 a, .int .i64 c]), recovered := false }] ∧ w' = w := by
  go_enter Tryz.func170, Tryz.ntmps170
  go_wp2
  exact ⟨rfl, rfl, rfl⟩

theorem Rd.set {w : World} {b n : Nat} {s : ByteArray} (h : Rd w b s n) (m : Nat) : Rd (w.setCell ⟨b, 1, none⟩ (.int .i64 m)) b s m :=
  ⟨by rw [World.cell?_setCell_other _ _ _ _ (by simp)]; exact h.hs, World.cell?_setCell_same _ _ _ h.ha, by rw [World.frozen?_setCell]; exact h.hf, by simpa using h.hb⟩
theorem Rd.set' {w : World} {b n : Nat} {s : ByteArray} (h : Rd w b s n) (m : Nat) (v : Value) (hv : v = .int .i64 m) : Rd (w.setCell ⟨b, 1, none⟩ v) b s m := by
  subst hv; exact h.set m

set_option maxHeartbeats 400000 in
theorem one_in (b n : Nat) (s : ByteArray) (lo hi c : Int) (w : World) (h : Rd w b s n) (hz : s.size ≤ 4096) (hn : n < s.size) (hc : ((s[n]'hn).toNat : Int) = c) (h1 : lo ≤ c) (h2 : c ≤ hi) :
    Calls Tryz.prog 333 #[.pointer (some ⟨b, 0, none⟩), .int .u8 lo, .int .u8 hi] w fun e w' => e = .returned (.int .u8 c) ∧ Rd w' b s (n + 1) ∧ Oth b w w' := by
  have HR := h
  obtain ⟨hs, ha, hf, hb⟩ := h
  have hne : ((n : Int) == (s.size : Int)) = false := by rw [beq_eq_false_iff_ne]; omega
  have d1 : decide (c < lo) = false := by simp; omega
  have d2 : decide (hi < c) = false := by simp; omega
  have HC := Lib.hid hc
  clear hc
  go_enter Tryz.func333, Tryz.ntmps333
  go_wp2_with (go_at_call 334; refine (peek_in b n s w hs ha hz hn c HC.out).mono ?_; rintro e w1 ⟨rfl, k, rfl⟩)
  go_quiet (fail)
  go_wp2
  go_ret
  exact ⟨rfl, (HR.drewN _).set' _ _ (by simp), ((Oth.refl b w).drewN _).setCell _ _⟩

set_option maxHeartbeats 400000 in
theorem one_low (b n : Nat) (s : ByteArray) (lo hi c : Int) (w : World) (h : Rd w b s n) (hz : s.size ≤ 4096) (hn : n < s.size) (hc : ((s[n]'hn).toNat : Int) = c) (h1 : c < lo) :
    Calls Tryz.prog 333 #[.pointer (some ⟨b, 0, none⟩), .int .u8 lo, .int .u8 hi] w fun e w' => Fault e ∧ Oth b w w' := by
  obtain ⟨hs, ha, hf, hb⟩ := h
  have hne : ((n : Int) == (s.size : Int)) = false := by rw [beq_eq_false_iff_ne]; omega
  have d1 : decide (c < lo) = true := by simp; omega
  have HC := Lib.hid hc
  clear hc
  go_enter Tryz.func333, Tryz.ntmps333
  go_wp2_with (go_at_call 334; refine (peek_in b n s w hs ha hz hn c HC.out).mono ?_; rintro e w1 ⟨rfl, k, rfl⟩)
  go_quiet (fail)
  go_wp2_with (go_at_call 170; refine (fail_any _ _ _ _).mono ?_; rintro e w1 ⟨rfl, rfl⟩)
  exact ⟨rfl, ⟨_, _, rfl, by simp [Bad]⟩, (Oth.refl b w).drewN _⟩

set_option maxHeartbeats 400000 in
theorem one_high (b n : Nat) (s : ByteArray) (lo hi c : Int) (w : World) (h : Rd w b s n) (hz : s.size ≤ 4096) (hn : n < s.size) (hc : ((s[n]'hn).toNat : Int) = c) (h0 : lo ≤ c) (h1 : hi < c) :
    Calls Tryz.prog 333 #[.pointer (some ⟨b, 0, none⟩), .int .u8 lo, .int .u8 hi] w fun e w' => Fault e ∧ Oth b w w' := by
  obtain ⟨hs, ha, hf, hb⟩ := h
  have hne : ((n : Int) == (s.size : Int)) = false := by rw [beq_eq_false_iff_ne]; omega
  have d1 : decide (c < lo) = false := by simp; omega
  have d2 : decide (hi < c) = true := by simp; omega
  have HC := Lib.hid hc
  clear hc
  go_enter Tryz.func333, Tryz.ntmps333
  go_wp2_with (go_at_call 334; refine (peek_in b n s w hs ha hz hn c HC.out).mono ?_; rintro e w1 ⟨rfl, k, rfl⟩)
  go_quiet (fail)
  go_wp2_with (go_at_call 170; refine (fail_any _ _ _ _).mono ?_; rintro e w1 ⟨rfl, rfl⟩)
  exact ⟨rfl, ⟨_, _, rfl, by simp [Bad]⟩, (Oth.refl b w).drewN _⟩

set_option maxHeartbeats 400000 in
theorem one_end (b n : Nat) (s : ByteArray) (lo hi : Int) (w : World) (h : Rd w b s n) (hz : s.size ≤ 4096) (hn : n = s.size) :
    Calls Tryz.prog 333 #[.pointer (some ⟨b, 0, none⟩), .int .u8 lo, .int .u8 hi] w fun e w' => Fault e ∧ Oth b w w' := by
  obtain ⟨hs, ha, hf, hb⟩ := h
  subst hn
  go_enter Tryz.func333, Tryz.ntmps333
  go_wp2_with (go_at_call 334; refine (peek_end b s w hs ha hz).mono ?_; rintro e w1 ⟨rfl, k, rfl⟩)
  go_quiet (fail)
  go_wp2_with (go_at_call 170; refine (fail_any _ _ _ _).mono ?_; rintro e w1 ⟨rfl, rfl⟩)
  exact ⟨rfl, ⟨_, _, rfl, by simp [Bad]⟩, (Oth.refl b w).drewN _⟩
end Go.Proofs.YthbiiccblcoogaaGreatDoor
