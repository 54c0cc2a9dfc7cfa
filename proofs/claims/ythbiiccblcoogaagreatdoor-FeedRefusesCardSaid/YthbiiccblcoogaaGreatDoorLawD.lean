/- The law's other callees: nil receivers; a pattern that can't be planned; the disk's New, Cut, On. -/
import Derived.Test.YthbiiccblcoogaaGreatDoorLawB
import Derived.Carry
set_option linter.unusedVariables false
set_option linter.unusedSimpArgs false
namespace Go.Proofs.YthbiiccblcoogaaGreatDoor
open Go.RowKit

theorem drive_nil (g : Option Addr) (n c : Nat) (w : World) : Calls Tryz.prog 5 #[.pointer none, .slice g n c] w fun e w' => e = .returned (.tuple #[.int .i64 0, .int .i64 1]) ∧ w = w' := by
  go_enter Tryz.func5, Tryz.ntmps5
  go_wp2
  go_ret2
  exact ⟨rfl, rfl⟩
theorem matches_nil (w : World) : Calls Tryz.prog 6 #[.pointer none] w fun e w' => e = .returned (.tuple #[.slice none 0 0, .int .i64 1]) ∧ w = w' := by
  go_enter Tryz.func6, Tryz.ntmps6
  go_wp2
  go_ret2
  exact ⟨rfl, rfl⟩

/-- A configuration as a value. -/
def cfg (a b c d e f g h : Int) (q : Option Addr) (n m : Nat) : Array Value := #[.int .i64 a, .int .i64 b, .int .i64 c, .int .i64 d, .int .i64 e, .int .i64 f, .int .i64 g, .int .i64 h, .slice q n m]

theorem play_nil (a b c d x f g h : Int) (q q2 : Option Addr) (n m n2 m2 : Nat) (s : ByteArray) (w : World) :
    Calls Tryz.prog 7 #[.pointer none, .agg #[.int .i64 a, .int .i64 b, .int .i64 c, .int .i64 d, .int .i64 x, .int .i64 f, .int .i64 g, .int .i64 h, .slice q n m], .string s, .slice q2 n2 m2, .slice none 0 0] w fun e w' =>
      e = .returned (.tuple #[.slice none 0 0, .int .i64 0, .int .i64 1]) ∧ Below w.heap.size w w' := by
  go_enter Tryz.func7, Tryz.ntmps7
  go_wp2
  go_ret3
  exact ⟨rfl, (Below.refl _ w).alloc (Nat.le_refl _) _⟩

/-- An error that isn't a loss of power, and nothing beside it. -/
def BadE (w : World) (e : Ending) (w' : World) : Prop := (∃ E, e = .returned (.tuple #[.pointer none, .int .i64 E]) ∧ ErrE E) ∧ Below w.heap.size w w'

set_option maxRecDepth 100000 in
set_option maxHeartbeats 1600000 in
theorem open_bad (D : Nat) (a b c d x f g h : Int) (q : Option Addr) (n m : Nat) (s : ByteArray) (w : World) (hs : ∀ p, Pat.parse s.data.toList = some p → ¬ Okay p) :
    Calls Tryz.prog 34 #[.pointer (some ⟨D, 0, none⟩), .agg #[.int .i64 a, .int .i64 b, .int .i64 c, .int .i64 d, .int .i64 x, .int .i64 f, .int .i64 g, .int .i64 h, .slice q n m], .string s] w (BadE w) := by
  have HS := Lib.hid hs
  clear hs
  go_enter Tryz.func34, Tryz.ntmps34
  go_wp2_with fail
  refine (compile_bad s _ HS.out).mono ?_
  rintro e w1 ⟨⟨E, rfl, hE⟩, hb⟩
  have B1 := (Below.refl w.heap.size w).alloc (Nat.le_refl _) (.cells #[.int .i64 a, .int .i64 b, .int .i64 c, .int .i64 d, .int .i64 x, .int .i64 f, .int .i64 g, .int .i64 h, .slice q n m] 41)
  have B2 := B1.trans (hb.mono B1.size)
  have h0 : (E != 0) = true := by rw [bne_iff_ne]; exact hE.1
  have HE := Lib.hid hE
  clear hE hb
  go_wp2
  go_ret2
  exact ⟨⟨E, rfl, HE.out⟩, B2.alloc B2.size _⟩

set_option maxRecDepth 100000 in
set_option maxHeartbeats 1600000 in
theorem once_bad (D : Nat) (a b c d x f g h : Int) (q q2 : Option Addr) (n m n2 m2 : Nat) (s : ByteArray) (w : World) (hs : ∀ p, Pat.parse s.data.toList = some p → ¬ Okay p) :
    Calls Tryz.prog 18 #[.pointer (some ⟨D, 0, none⟩), .agg #[.int .i64 a, .int .i64 b, .int .i64 c, .int .i64 d, .int .i64 x, .int .i64 f, .int .i64 g, .int .i64 h, .slice q n m], .string s, .slice q2 n2 m2] w (BadE w) := by
  have HS := Lib.hid hs
  clear hs
  go_enter Tryz.func18, Tryz.ntmps18
  go_wp2_with fail
  refine (open_bad D a b c d x f g h q n m s _ HS.out).mono ?_
  rintro e w1 ⟨⟨E, rfl, hE⟩, hb⟩
  have B1 := (Below.refl w.heap.size w).alloc (Nat.le_refl _) (.cells #[.int .i64 a, .int .i64 b, .int .i64 c, .int .i64 d, .int .i64 x, .int .i64 f, .int .i64 g, .int .i64 h, .slice q n m] 41)
  have B2 := B1.trans (hb.mono B1.size)
  have h0 : (E != 0) = true := by rw [bne_iff_ne]; exact hE.1
  have HE := Lib.hid hE
  clear hE hb
  go_wp2
  go_ret2
  exact ⟨⟨E, rfl, HE.out⟩, B2⟩

set_option maxHeartbeats 800000 in
theorem clone_nil (w : World) : Calls Tryz.prog 33 #[.slice none 0 0] w fun e w' => e = .returned (.slice none 0 0) ∧ w = w' := by
  have hn : ∀ w, (binOp .eql 23 (.slice none 0 0) (.slice none 0 0)).run Tryz.prog w = .ok (.bool true) w := fun w => by kernel_rfl
  go_enter Tryz.func33, Tryz.ntmps33
  go_wp2
  go_ret
  exact ⟨rfl, rfl⟩

/-- A disk, as it is made. -/
def dsk (R : Int) (a b : Nat) (l : Int) : Array Value := #[.int .i64 R, .slice none 0 0, .map (some a), .map (some b), .slice none 0 0, .int .i64 l, .int .i64 0, .slice none 0 0, .int .i64 0, .int .i64 0, .slice none 0 0, .bool false]

/-- A new disk. -/
def NewR (w : World) (e : Ending) (w' : World) : Prop := ∃ D a b, e = .returned (.pointer (some ⟨D, 0, none⟩)) ∧ Lb w' D (dsk 1073741824 a b 0) 87 ∧ Below w.heap.size w w' ∧ w.heap.size ≤ D

set_option maxHeartbeats 800000 in
theorem new_any (w : World) : Calls Tryz.prog 11 #[.int .i64 1073741824] w (NewR w) := by
  have hmm := @run_makeMap Tryz.prog
  go_enter Tryz.func11, Tryz.ntmps11
  go_wp2
  go_ret
  have n1 := Lb.new ((w.alloc (.map #[] 0)).alloc (.map #[] 0)) (dsk 1073741824 w.heap.size (w.heap.size + 1) 0) 87
  simp only [sz_alloc] at n1
  exact ⟨w.heap.size + 1 + 1, w.heap.size, w.heap.size + 1, rfl, n1, (((Below.refl _ w).alloc (Nat.le_refl _) _).alloc (by simp) _).alloc (by simp; omega) _, by omega⟩

set_option maxHeartbeats 1600000 in
theorem cut_any (D a b : Nat) (R l : Int) (w : World) (h : Lb w D (dsk R a b l) 87) :
    Calls Tryz.prog 17 #[.pointer (some ⟨D, 0, none⟩), .int .i64 1, .int .i64 0, .slice none 0 0] w fun e w' => e = .returned (.tuple #[]) ∧ Lb w' D (dsk R a b 1) 87 ∧ Oth D w w' := by
  have c5 := h.cell 5 _ rfl
  have c6 := h.cell 6 _ rfl
  have c7 := h.cell 7 _ rfl
  have cf := fun i => h.frozen i
  go_enter Tryz.func17, Tryz.ntmps17
  go_wp2_with (go_at_call 33; refine (clone_nil _).mono ?_; rintro e w' ⟨rfl, rfl⟩)
  go_end0
  exact ⟨rfl, ((h.set 5 (.int .i64 1)).set 6 (.int .i64 0)).set 7 (.slice none 0 0), (((Oth.refl D w).setCell 5 _).setCell 6 _).setCell 7 _⟩

set_option maxHeartbeats 1600000 in
theorem on_any (D a b : Nat) (R l : Int) (w : World) (h : Lb w D (dsk R a b l) 87) :
    Calls Tryz.prog 19 #[.pointer (some ⟨D, 0, none⟩)] w fun e w' => e = .returned (.tuple #[]) ∧ Oth D w w' := by
  have c5 := h.cell 5 _ rfl
  have c6 := h.cell 6 _ rfl
  have c7 := h.cell 7 _ rfl
  have c8 := h.cell 8 _ rfl
  have c9 := h.cell 9 _ rfl
  have c10 := h.cell 10 _ rfl
  have c11 := h.cell 11 _ rfl
  have cf := fun i => h.frozen i
  go_enter Tryz.func19, Tryz.ntmps19
  go_wp2
  go_end0
  exact ⟨rfl, (((((((Oth.refl D w).setCell 11 _).setCell 5 _).setCell 6 _).setCell 7 _).setCell 8 _).setCell 9 _).setCell 10 _⟩

/-- What Play gives of a pattern that can't be planned. -/
def PlayR (D : Nat) (w : World) (e : Ending) (w' : World) : Prop := (∃ E, e = .returned (.tuple #[.slice none 0 0, .int .i64 1, .int .i64 E]) ∧ ErrE E) ∧ Oth D w w'

set_option maxRecDepth 100000 in
set_option maxHeartbeats 3200000 in
theorem play_bad (D A B L : Nat) (R l : Int) (a b c d x f g h : Int) (q q2 : Option Addr) (n m n2 m2 : Nat) (s : ByteArray) (w : World) (hD : Lb w D (dsk R A B l) 87) (hL : Lb w L #[.int .i64 1, .int .i64 0, .slice none 0 0] 52)
    (hs : ∀ p, Pat.parse s.data.toList = some p → ¬ Okay p) :
    Calls Tryz.prog 7 #[.pointer (some ⟨D, 0, none⟩), .agg #[.int .i64 a, .int .i64 b, .int .i64 c, .int .i64 d, .int .i64 x, .int .i64 f, .int .i64 g, .int .i64 h, .slice q n m], .string s, .slice q2 n2 m2, .slice (some ⟨L, 0, none⟩) 1 1] w (PlayR D w) := by
  have HS := Lib.hid hs
  clear hs
  have l0 := hL.cell 0 _ rfl
  have l1 := hL.cell 1 _ rfl
  have l2 := hL.cell 2 _ rfl
  have lL := hL.lt
  have lD := hD.lt
  go_enter Tryz.func7, Tryz.ntmps7
  go_wp2_with fail
  go_loop [25] (fun v => v = .int .i64 0) (fun _ => 0)
  case atStart => rfl
  case round =>
    subst hrel
    have D1 := (hD.alloc (.cells #[.int .i64 a, .int .i64 b, .int .i64 c, .int .i64 d, .int .i64 x, .int .i64 f, .int .i64 g, .int .i64 h, .slice q n m] 41)).alloc (.cells #[.int .i64 1, .int .i64 0, .slice none 0 0] 52)
    have C1 := (Lb.new w #[.int .i64 a, .int .i64 b, .int .i64 c, .int .i64 d, .int .i64 x, .int .i64 f, .int .i64 g, .int .i64 h, .slice q n m] 41).alloc (.cells #[.int .i64 1, .int .i64 0, .slice none 0 0] 52)
    have O1 := ((Oth.refl D w).alloc (.cells #[.int .i64 a, .int .i64 b, .int .i64 c, .int .i64 d, .int .i64 x, .int .i64 f, .int .i64 g, .int .i64 h, .slice q n m] 41)).alloc (.cells #[.int .i64 1, .int .i64 0, .slice none 0 0] 52)
    go_wp2_with fail
    refine (cut_any D A B R l _ (by exact D1)).mono ?_
    rintro e w1 ⟨rfl, D2, O2⟩
    have C2 := C1.oth O2 (by omega)
    have k0 := C2.cell 0 _ rfl
    have k1 := C2.cell 1 _ rfl
    have k2 := C2.cell 2 _ rfl
    have k3 := C2.cell 3 _ rfl
    have k4 := C2.cell 4 _ rfl
    have k5 := C2.cell 5 _ rfl
    have k6 := C2.cell 6 _ rfl
    have k7 := C2.cell 7 _ rfl
    have k8 := C2.cell 8 _ rfl
    go_wp2_with fail
    refine (once_bad D a b c d x f g h q q2 n m n2 m2 s _ HS.out).mono ?_
    rintro e w2 ⟨⟨E, rfl, hE⟩, hb⟩
    have D3 := D2.below hb D2.lt
    have h0 : (E != 0) = true := by rw [bne_iff_ne]; exact hE.1
    have h13 : (E != 13) = true := by rw [bne_iff_ne]; exact hE.2
    have HE := Lib.hid hE
    clear hE
    go_wp2_with fail
    refine (on_any D A B R 1 _ (by exact D3)).mono ?_
    rintro e w3 ⟨rfl, O3⟩
    go_wp2
    go_ret3
    exact ⟨⟨E, rfl, HE.out⟩, ((O1.trans O2).trans (Oth.of_below hb)).trans O3⟩
end Go.Proofs.YthbiiccblcoogaaGreatDoor
