/- pattern.Parse. -/
import Derived.Test.YthbiiccblcoogaaGreatDoorPatN
set_option linter.unusedVariables false
set_option linter.unusedSimpArgs false
namespace Go.Proofs.YthbiiccblcoogaaGreatDoor
open Go.RowKit

theorem own_base {W : World} {base base' e size n : Nat} {v : Value} {xs : List Value} (h : W.ownsRow base e size v n xs) (hb : base' ≤ base) : W.ownsRow base' e size v n xs :=
  ⟨h.1, h.2.imp id fun ⟨g, cap, cur, a, b, r⟩ => ⟨g, cap, cur, a, Nat.le_trans hb b, r⟩⟩

theorem own_slice {W : World} {base e size n : Nat} {v : Value} {xs : List Value} (h : W.ownsRow base e size v n xs) : ∃ g c, v = .slice g n c := by
  rcases h.2 with ⟨rfl, rfl⟩ | ⟨g, cap, cur, rfl, _⟩
  · exact ⟨none, 0, rfl⟩
  · exact ⟨some ⟨g, 0, none⟩, cap, rfl⟩

/-- What a call of Parse gives. -/
def ParR (w : World) (r : Option Pat.Pattern) (e : Ending) (w' : World) : Prop :=
  match r with
  | none => ∃ a c, e = .returned (.tuple #[.agg #[.slice none 0 0, .slice none 0 0, .int .i64 0], .int .i64 a, .int .i64 c]) ∧ Bad c ∧ Below w.heap.size w w'
  | some x => ∃ v1 v2, e = .returned (.tuple #[.agg #[v1, v2, .int .i64 x.within], .int .i64 0, .int .i64 0]) ∧ Below w.heap.size w w' ∧
      w'.ownsRow w.heap.size 342 5 v1 x.steps.length (cellsS x.steps) ∧ w'.ownsRow w.heap.size 350 4 v2 x.conds.length (cellsC x.conds)
theorem ParR.none_mk {w w' : World} {r : Option Pat.Pattern} {a c : Int} (hr : r = none) (hc : Bad c) (hb : Below w.heap.size w w') : ParR w r (.returned (.tuple #[.agg #[.slice none 0 0, .slice none 0 0, .int .i64 0], .int .i64 a, .int .i64 c])) w' := by
  subst hr; exact ⟨a, c, rfl, hc, hb⟩

set_option maxHeartbeats 1600000 in
theorem parse_long (s : ByteArray) (w : World) (hz : 4096 < s.size) (R : Option Pat.Pattern) (hR : R = none) : Calls Tryz.prog 108 #[.string s] w (ParR w R) := by
  go_enter_defers Tryz.func108, Tryz.ntmps108
  go_wp2
  simp [bodyPostD, Leaves, settle, results, Tryz.results108, go_sem]
  exact ParR.none_mk hR (.inl rfl) ((((Below.refl _ w).alloc (Nat.le_refl _) _).alloc (by simp) _).alloc (by simp; omega) _)

theorem sz_alloc (w : World) (o : Obj) : (w.alloc o).heap.size = w.heap.size + 1 := by simp
theorem Lb.rd {W : World} {B : Nat} {s : ByteArray} (h : Lb W B #[.string s, .int .i64 0] 338) : Rd W B s 0 := ⟨h.cell 0 _ rfl, h.cell 1 _ rfl, h.frozen 1, h.lt⟩

theorem leave_fault {w W : World} {R : Option Pat.Pattern} {a c x y : Int} {tmps : Array Value} {N : Nat} {z0 z1 z2 : Value} (hc : Bad c) (hR : R = none)
    (h2 : tmps[2]?.getD undef = .pointer (some ⟨N, 0, none⟩)) (h3 : tmps[3]?.getD undef = .pointer (some ⟨N + 1, 0, none⟩)) (h4 : tmps[4]?.getD undef = .pointer (some ⟨N + 1 + 1, 0, none⟩)) (hN : w.heap.size ≤ N)
    (hB : Lb W N #[z0, z1, z2] 242) (hA : Lb W (N + 1) #[.int .i64 x] 3) (hC : Lb W (N + 1 + 1) #[.int .i64 y] 30) (hb : Below w.heap.size w W) :
    bodyPostD Tryz.prog Tryz.f108 (ParR w R) (Exit.panic [{ v := .iface 334 (.agg #[.int .i64 a, .int .i64 c]), recovered := false }])
      { tmps := tmps, defers := [{ target := Target.fn (Fn.func 168) #[.pointer (some ⟨N, 0, none⟩), .pointer (some ⟨N + 1, 0, none⟩), .pointer (some ⟨N + 1 + 1, 0, none⟩)], args := #[] }] } W := by
  show Leaves _ _ _ _ _ _ _
  have hw := hB.lt
  refine leaves_cons (f := 168) (args := #[.pointer (some ⟨N, 0, none⟩), .pointer (some ⟨N + 1, 0, none⟩), .pointer (some ⟨N + 1 + 1, 0, none⟩)]) (by simp) (by simp [go_sem]) ?_
  refine (catch_fault N (N + 1) (N + 1 + 1) a c x y z0 z1 z2 [] W hB hA hC (by omega) (by omega) (by omega)).mono ?_
  rintro e u' w'' ⟨rfl, rfl, B', A', C', hb'⟩
  have b0 := B'.cell 0 _ rfl
  have b1 := B'.cell 1 _ rfl
  have b2 := B'.cell 2 _ rfl
  have a0 := A'.cell 0 _ rfl
  have c0 := C'.cell 0 _ rfl
  simp [Leaves, settle, results, Tryz.results108, go_sem, h2, h3, h4, b0, b1, b2, a0, c0]
  exact ParR.none_mk hR hc (hb.trans (hb' _ hN (by omega) (by omega) (by omega)))

set_option maxRecDepth 100000 in
set_option maxHeartbeats 1600000 in
theorem parse_fault (s : ByteArray) (w : World) (hz : s.size ≤ 4096) (R : Option Pat.Pattern) (hR : R = none) (hx : Pat.pattern s.data.toList = none) : Calls Tryz.prog 108 #[.string s] w (ParR w R) := by
  have hmf : ∀ (fn : Fn) (first cap : Array Value) (w : World), (Instr.makeFunc fn first cap).run Tryz.prog w = .ok (.func fn first cap) w := fun _ _ _ _ => rfl
  have HX := Lib.hid hx
  have HR := Lib.hid hR
  clear hx hR
  go_enter_defers Tryz.func108, Tryz.ntmps108
  have N0 := Lb.new w #[.slice none 0 0, .slice none 0 0, .int .i64 0] 242
  have N1 := Lb.new (w.alloc (.cells #[.slice none 0 0, .slice none 0 0, .int .i64 0] 242)) #[.int .i64 0] 3
  have N2 := Lb.new ((w.alloc (.cells #[.slice none 0 0, .slice none 0 0, .int .i64 0] 242)).alloc (.cells #[.int .i64 0] 3)) #[.int .i64 0] 30
  have N3 := Lb.new (((w.alloc (.cells #[.slice none 0 0, .slice none 0 0, .int .i64 0] 242)).alloc (.cells #[.int .i64 0] 3)).alloc (.cells #[.int .i64 0] 30)) #[.string s, .int .i64 0] 338
  simp only [sz_alloc] at N1 N2 N3
  go_wp2_with fail
  refine (pattern_any _ s _ (Lb.rd N3) hz).mono ?_
  rw [HX.out]
  rintro e w1 ⟨⟨a, c, rfl, hf⟩, ho⟩
  refine leave_fault hf HR.out rfl rfl rfl (Nat.le_refl _) (((N0.alloc _).alloc _).alloc _ |>.oth ho (by omega)) ((N1.alloc _).alloc _ |>.oth ho (by omega)) (N2.alloc _ |>.oth ho (by omega)) ?_
  exact (((((Below.refl _ w).alloc (Nat.le_refl _) _).alloc (by simp) _).alloc (by simp; omega) _).alloc (by simp; omega) _).trans (ho.below (by omega) (by simp; omega))

set_option maxRecDepth 100000 in
set_option maxHeartbeats 1600000 in
theorem parse_rest (s : ByteArray) (w : World) (hz : s.size ≤ 4096) (R : Option Pat.Pattern) (hR : R = none) (X : Pat.Pattern) (q : Nat) (hx : Pat.pattern s.data.toList = some (X, q)) (hq : (q : Int) < s.size) : Calls Tryz.prog 108 #[.string s] w (ParR w R) := by
  have hmf : ∀ (fn : Fn) (first cap : Array Value) (w : World), (Instr.makeFunc fn first cap).run Tryz.prog w = .ok (.func fn first cap) w := fun _ _ _ _ => rfl
  have HX := Lib.hid hx
  have HR := Lib.hid hR
  clear hx hR
  go_enter_defers Tryz.func108, Tryz.ntmps108
  have N0 := Lb.new w #[.slice none 0 0, .slice none 0 0, .int .i64 0] 242
  have N1 := Lb.new (w.alloc (.cells #[.slice none 0 0, .slice none 0 0, .int .i64 0] 242)) #[.int .i64 0] 3
  have N2 := Lb.new ((w.alloc (.cells #[.slice none 0 0, .slice none 0 0, .int .i64 0] 242)).alloc (.cells #[.int .i64 0] 3)) #[.int .i64 0] 30
  have N3 := Lb.new (((w.alloc (.cells #[.slice none 0 0, .slice none 0 0, .int .i64 0] 242)).alloc (.cells #[.int .i64 0] 3)).alloc (.cells #[.int .i64 0] 30)) #[.string s, .int .i64 0] 338
  simp only [sz_alloc] at N1 N2 N3
  go_wp2_with fail
  refine (pattern_any _ s _ (Lb.rd N3) hz).mono ?_
  rw [HX.out]
  rintro e w1 ⟨v1, v2, rfl, hqs, hrd, ho, hown1, hown2⟩
  obtain ⟨g1, c1, rfl⟩ := own_slice hown1
  obtain ⟨g2, c2, rfl⟩ := own_slice hown2
  have M0 := ((N0.alloc _).alloc _).alloc (.cells #[.string s, .int .i64 0] 338) |>.oth ho (by omega)
  have M1 := (N1.alloc _).alloc (.cells #[.string s, .int .i64 0] 338) |>.oth ho (by omega)
  have M2 := N2.alloc (.cells #[.string s, .int .i64 0] 338) |>.oth ho (by omega)
  have m0 := M0.cell 0 _ rfl
  have m1 := M0.cell 1 _ rfl
  have m2 := M0.cell 2 _ rfl
  have mf := fun i => M0.frozen i
  have ra := hrd.ha
  have B1 := (((((Below.refl _ w).alloc (Nat.le_refl _) _).alloc (by simp) _).alloc (by simp; omega) _).alloc (by simp; omega) _).trans (ho.below (by omega) (by simp; omega))
  go_wp2_with (go_at_call 170; refine (fail_any _ _ _ _).mono ?_; rintro e w2 ⟨rfl, rfl⟩)
  refine leave_fault (.inr (.inl rfl)) HR.out rfl rfl rfl (Nat.le_refl _) (((M0.set 0 _).set 1 _).set 2 _) (((M1.other _ _ (by dsimp only; omega)).other _ _ (by dsimp only; omega)).other _ _ (by dsimp only; omega)) (((M2.other _ _ (by dsimp only; omega)).other _ _ (by dsimp only; omega)).other _ _ (by dsimp only; omega)) ?_
  exact ((B1.setCell (p := ⟨w.heap.size, 0, none⟩) (Nat.le_refl _) _).setCell (p := ⟨w.heap.size, 1, none⟩) (Nat.le_refl _) _).setCell (p := ⟨w.heap.size, 2, none⟩) (Nat.le_refl _) _

set_option maxRecDepth 100000 in
set_option maxHeartbeats 1600000 in
theorem parse_ok (s : ByteArray) (w : World) (hz : s.size ≤ 4096) (R : Option Pat.Pattern) (X : Pat.Pattern) (q : Nat) (hR : some X = R) (hx : Pat.pattern s.data.toList = some (X, q)) (hq : (s.size : Int) ≤ q) : Calls Tryz.prog 108 #[.string s] w (ParR w R) := by
  have hmf : ∀ (fn : Fn) (first cap : Array Value) (w : World), (Instr.makeFunc fn first cap).run Tryz.prog w = .ok (.func fn first cap) w := fun _ _ _ _ => rfl
  have HX := Lib.hid hx
  have HR := Lib.hid hR
  clear hx hR
  go_enter_defers Tryz.func108, Tryz.ntmps108
  have N0 := Lb.new w #[.slice none 0 0, .slice none 0 0, .int .i64 0] 242
  have N1 := Lb.new (w.alloc (.cells #[.slice none 0 0, .slice none 0 0, .int .i64 0] 242)) #[.int .i64 0] 3
  have N2 := Lb.new ((w.alloc (.cells #[.slice none 0 0, .slice none 0 0, .int .i64 0] 242)).alloc (.cells #[.int .i64 0] 3)) #[.int .i64 0] 30
  have N3 := Lb.new (((w.alloc (.cells #[.slice none 0 0, .slice none 0 0, .int .i64 0] 242)).alloc (.cells #[.int .i64 0] 3)).alloc (.cells #[.int .i64 0] 30)) #[.string s, .int .i64 0] 338
  simp only [sz_alloc] at N1 N2 N3
  go_wp2_with fail
  refine (pattern_any _ s _ (Lb.rd N3) hz).mono ?_
  rw [HX.out]
  rintro e w1 ⟨v1, v2, rfl, hqs, hrd, ho, hown1, hown2⟩
  obtain ⟨g1, c1, rfl⟩ := own_slice hown1
  obtain ⟨g2, c2, rfl⟩ := own_slice hown2
  have M0 := ((N0.alloc _).alloc _).alloc (.cells #[.string s, .int .i64 0] 338) |>.oth ho (by omega)
  have M1 := (N1.alloc _).alloc (.cells #[.string s, .int .i64 0] 338) |>.oth ho (by omega)
  have M2 := N2.alloc (.cells #[.string s, .int .i64 0] 338) |>.oth ho (by omega)
  have m0 := M0.cell 0 _ rfl
  have m1 := M0.cell 1 _ rfl
  have m2 := M0.cell 2 _ rfl
  have mf := fun i => M0.frozen i
  have ra := hrd.ha
  have B1 := (((((Below.refl _ w).alloc (Nat.le_refl _) _).alloc (by simp) _).alloc (by simp; omega) _).alloc (by simp; omega) _).trans (ho.below (by omega) (by simp; omega))
  have k0 := M1.cell 0 _ rfl
  have kf := fun i => M1.frozen i
  have l0 := M2.cell 0 _ rfl
  have lf := fun i => M2.frozen i
  go_wp2
  show Leaves _ _ _ _ _ _ _
  refine leaves_cons (f := 168) (args := #[.pointer (some ⟨w.heap.size, 0, none⟩), .pointer (some ⟨w.heap.size + 1, 0, none⟩), .pointer (some ⟨w.heap.size + 1 + 1, 0, none⟩)]) (by simp) (by simp [go_sem]) ?_
  refine (catch_idle _ _ _ _).mono ?_
  rintro e u' w'' ⟨rfl, rfl, o, rfl⟩
  have Z0 := ((((((((M0.set 0 (.slice g1 X.steps.length c1)).set 1 (.slice g2 X.conds.length c2)).set 2 (.int .i64 X.within)).set 0 (.slice g1 X.steps.length c1)).set 1 (.slice g2 X.conds.length c2)).set 2 (.int .i64 X.within)).other ⟨w.heap.size + 1, 0, none⟩ (.int .i64 0) (by dsimp only; omega)).other ⟨w.heap.size + 1 + 1, 0, none⟩ (.int .i64 0) (by dsimp only; omega)).alloc o
  have Z1 := ((((((((M1.other ⟨w.heap.size, 0, none⟩ (.slice g1 X.steps.length c1) (by dsimp only; omega)).other ⟨w.heap.size, 1, none⟩ (.slice g2 X.conds.length c2) (by dsimp only; omega)).other ⟨w.heap.size, 2, none⟩ (.int .i64 X.within) (by dsimp only; omega)).other ⟨w.heap.size, 0, none⟩ (.slice g1 X.steps.length c1) (by dsimp only; omega)).other ⟨w.heap.size, 1, none⟩ (.slice g2 X.conds.length c2) (by dsimp only; omega)).other ⟨w.heap.size, 2, none⟩ (.int .i64 X.within) (by dsimp only; omega)).set 0 (.int .i64 0)).other ⟨w.heap.size + 1 + 1, 0, none⟩ (.int .i64 0) (by dsimp only; omega)).alloc o
  have Z2 := ((((((((M2.other ⟨w.heap.size, 0, none⟩ (.slice g1 X.steps.length c1) (by dsimp only; omega)).other ⟨w.heap.size, 1, none⟩ (.slice g2 X.conds.length c2) (by dsimp only; omega)).other ⟨w.heap.size, 2, none⟩ (.int .i64 X.within) (by dsimp only; omega)).other ⟨w.heap.size, 0, none⟩ (.slice g1 X.steps.length c1) (by dsimp only; omega)).other ⟨w.heap.size, 1, none⟩ (.slice g2 X.conds.length c2) (by dsimp only; omega)).other ⟨w.heap.size, 2, none⟩ (.int .i64 X.within) (by dsimp only; omega)).other ⟨w.heap.size + 1, 0, none⟩ (.int .i64 0) (by dsimp only; omega)).set 0 (.int .i64 0)).alloc o
  have BB := (((((((((B1.setCell (p := ⟨w.heap.size, 0, none⟩) (Nat.le_refl _) (.slice g1 X.steps.length c1)).setCell (p := ⟨w.heap.size, 1, none⟩) (Nat.le_refl _) (.slice g2 X.conds.length c2)).setCell (p := ⟨w.heap.size, 2, none⟩) (Nat.le_refl _) (.int .i64 X.within)).setCell (p := ⟨w.heap.size, 0, none⟩) (Nat.le_refl _) (.slice g1 X.steps.length c1)).setCell (p := ⟨w.heap.size, 1, none⟩) (Nat.le_refl _) (.slice g2 X.conds.length c2)).setCell (p := ⟨w.heap.size, 2, none⟩) (Nat.le_refl _) (.int .i64 X.within)).setCell (p := ⟨w.heap.size + 1, 0, none⟩) (by dsimp only; omega) (.int .i64 0)).setCell (p := ⟨w.heap.size + 1 + 1, 0, none⟩) (by dsimp only; omega) (.int .i64 0)).alloc (Nat.le_of_lt (by have := M0.lt; simpa using this)) o)
  have keep : ∀ {e size n : Nat} {v : Value} {xs : List Value}, w1.ownsRow (((((w.alloc (Obj.cells #[Value.slice none 0 0, Value.slice none 0 0, Value.int IntKind.i64 0] 242)).alloc (Obj.cells #[Value.int IntKind.i64 0] 3)).alloc (Obj.cells #[Value.int IntKind.i64 0] 30)).alloc (Obj.cells #[Value.string s, Value.int IntKind.i64 0] 338)).heap.size + 1) e size v n xs →
      (((((((((w1.setCell ⟨w.heap.size, 0, none⟩ (.slice g1 X.steps.length c1)).setCell ⟨w.heap.size, 1, none⟩ (.slice g2 X.conds.length c2)).setCell ⟨w.heap.size, 2, none⟩ (.int .i64 X.within)).setCell ⟨w.heap.size, 0, none⟩ (.slice g1 X.steps.length c1)).setCell ⟨w.heap.size, 1, none⟩ (.slice g2 X.conds.length c2)).setCell ⟨w.heap.size, 2, none⟩ (.int .i64 X.within)).setCell ⟨w.heap.size + 1, 0, none⟩ (.int .i64 0)).setCell ⟨w.heap.size + 1 + 1, 0, none⟩ (.int .i64 0)).alloc o).ownsRow w.heap.size e size v n xs := by
    intro e size n v xs hh
    have hb : ∀ k, v.ownBlock = some k → w.heap.size + 5 ≤ k := fun k e => by have := hh.lt k e; simp at this; omega
    have o1 : ∀ i, v.ownBlock = some i → i < w.heap.size + 5 → False := fun i e h => by have := hb i e; omega
    refine own_base (base := w.heap.size + 5) (World.ownsRow.alloc ?_ o) (by omega)
    iterate 8 refine ownsRow_setCell_other ?_ (fun e => o1 _ e (by dsimp only; omega)) _
    exact own_base hh (by simp)
  have p1 := keep hown1
  have p2 := keep hown2
  have b0 := Z0.cell 0 _ rfl
  have b1 := Z0.cell 1 _ rfl
  have b2 := Z0.cell 2 _ rfl
  have q0 := Z1.cell 0 _ rfl
  have r0 := Z2.cell 0 _ rfl
  clear keep
  have hR := HR.out
  clear HR HX N0 N1 N2 N3 ho hrd M0 M1 M2 Z0 Z1 Z2 B1 hown1 hown2 m0 m1 m2 mf ra k0 kf l0 lf
  generalize ((((((((w1.setCell ⟨w.heap.size, 0, none⟩ (.slice g1 X.steps.length c1)).setCell ⟨w.heap.size, 1, none⟩ (.slice g2 X.conds.length c2)).setCell ⟨w.heap.size, 2, none⟩ (.int .i64 X.within)).setCell ⟨w.heap.size, 0, none⟩ (.slice g1 X.steps.length c1)).setCell ⟨w.heap.size, 1, none⟩ (.slice g2 X.conds.length c2)).setCell ⟨w.heap.size, 2, none⟩ (.int .i64 X.within)).setCell ⟨w.heap.size + 1, 0, none⟩ (.int .i64 0)).setCell ⟨w.heap.size + 1 + 1, 0, none⟩ (.int .i64 0)).alloc o = W at *
  simp [Leaves, settle, results, Tryz.results108, go_sem, b0, b1, b2, q0, r0]
  subst hR
  exact ⟨_, _, rfl, BB, p1, p2⟩

/-- Parse. -/
theorem parse_any (s : ByteArray) (w : World) : Calls Tryz.prog 108 #[.string s] w (ParR w (Pat.parse s.data.toList)) := by
  have el : s.data.toList.length = s.size := by simp
  unfold Pat.parse
  by_cases hz : 4096 < s.size
  · rw [if_pos (by rw [el]; exact hz)]
    exact parse_long s w hz _ rfl
  · rw [if_neg (by rw [el]; exact hz)]
    rcases hx : Pat.pattern s.data.toList with _ | ⟨X, q⟩
    · exact parse_fault s w (by omega) _ rfl hx
    · by_cases hq : q < s.size
      · simp only
        rw [if_pos (by rw [el]; exact hq)]
        exact parse_rest s w (by omega) _ rfl X q hx (by omega)
      · simp only
        rw [if_neg (by rw [el]; exact hq)]
        exact parse_ok s w (by omega) _ X q rfl hx (by omega)
end Go.Proofs.YthbiiccblcoogaaGreatDoor
