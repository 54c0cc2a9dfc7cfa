/- The law's 'planned'. -/
import Derived.Test.YthbiiccblcoogaaGreatDoorPlnE
set_option linter.unusedVariables false
set_option linter.unusedSimpArgs false
namespace Go.Proofs.YthbiiccblcoogaaGreatDoor
open Go.RowKit

/-- The text has a plan. -/
def Can (s : List UInt8) : Prop := ∃ p, Pat.parse s = some p ∧ Okay p

/-- What a call of 'planned' gives. -/
def PlnR (s : List UInt8) (w : World) (e : Ending) (w' : World) : Prop :=
  (∃ (g : Option Addr) (m c : Nat) (n : Int) (T : Bool), e = .returned (.tuple #[.agg #[.slice g m c, .int .i64 n], .bool T]) ∧ (T = true ↔ Can s)) ∧ Below w.heap.size w w'
theorem PlnR.no {s : List UInt8} {w w' : World} (h : ¬ Can s) (hb : Below w.heap.size w w') : PlnR s w (.returned (.tuple #[.agg #[.slice none 0 0, .int .i64 0], .bool false])) w' :=
  ⟨⟨_, _, _, _, false, rfl, by simp, fun h' => absurd h' h⟩, hb⟩

set_option maxRecDepth 100000 in
set_option maxHeartbeats 1600000 in
theorem planned_text (s : ByteArray) (w : World) (hx : Pat.parse s.data.toList = none) : Calls Tryz.prog 10 #[.string s] w (PlnR s.data.toList w) := by
  have hn : ¬ Can s.data.toList := by rintro ⟨p, h, _⟩; rw [hx] at h; cases h
  have HN := Lib.hid hn
  have HX := Lib.hid hx
  clear hx hn
  go_enter Tryz.func10, Tryz.ntmps10
  go_wp2_with fail
  refine (rparse s _).mono ?_
  rw [HX.out]
  rintro e w1 ⟨hb, a, c, rfl, hc⟩
  have h1 : (c != 0) = true := by rw [bne_iff_ne]; exact hc
  have B1 := (Below.refl w.heap.size w).alloc (Nat.le_refl _) (.cells #[.slice none 0 0, .int .i64 0] 46)
  have Y1 := (Lb.new w #[.slice none 0 0, .int .i64 0] 46).below hb (by simp)
  have Y2 := Y1.alloc (.cells #[.slice none 0 0, .slice none 0 0, .int .i64 0] 75)
  have y0 := Y1.cell 0 _ rfl
  have y1 := Y1.cell 1 _ rfl
  have yf := fun i => Y1.frozen i
  have zlt := Y1.lt
  have hB := B1.trans (hb.mono B1.size)
  have zne : ¬ w.heap.size = w1.heap.size := by omega
  clear hc hb B1
  go_wp2
  have Z := ((Y1.set 0 (.slice none 0 0)).set 1 (.int .i64 0)).alloc (.cells #[.slice none 0 0, .slice none 0 0, .int .i64 0] 75)
  have q0 := Z.cell 0 _ rfl
  have q1 := Z.cell 1 _ rfl
  refine bodyPost_ret (v := .tuple #[.agg #[.slice none 0 0, .int .i64 0], .bool false]) (by simp only [results, Tryz.results10]; simp [go_sem, q0, q1]) rfl ?_
  exact PlnR.no HN.out (((hB.setCell (p := ⟨w.heap.size, 0, none⟩) (Nat.le_refl _) _).setCell (p := ⟨w.heap.size, 1, none⟩) (Nat.le_refl _) _).alloc (by simpa using hB.size) _)
theorem Sv.of_own19 {w : World} {base : Nat} {g : Option Addr} {c : Nat} {l : List Pat.Step} (h : w.ownsRow base 130 5 (.slice g l.length c) l.length (cellsS l)) : Sv w g l := by
  intro i x hx
  have hi : i < l.length := (List.getElem?_eq_some_iff.1 hx).1
  rcases h.2 with ⟨h0, h1⟩ | ⟨b, cap, cur, he, hr⟩
  · omega
  injection he with he _ _
  subst he
  have hlt := (h.lt b rfl).2
  have hc := h.cells (g := b) rfl
  have hf : ∀ x ∈ l, ((fun x => (encS x).cells.toList) x).length = 5 := fun x _ => by simp [encS, Value.cells]
  have get : ∀ k u, k < 5 → ((encS x).cells.toList)[k]? = some u → w.cell? ⟨b, i * 5 + k, none⟩ = some u := fun k u hk hu => by
    have := hc (i * 5 + k) u ((flat_get hf hx hk).trans hu)
    have hadd : (⟨b, 0, none⟩ : Addr).add (i * 5 + k) = ⟨b, i * 5 + k, none⟩ := by unfold Addr.add; split <;> simp_all
    rwa [hadd] at this
  exact ⟨b, rfl, hlt, get 0 _ (by omega) (by simp [encS, Value.cells]), get 1 _ (by omega) (by simp [encS, Value.cells]), get 2 _ (by omega) (by simp [encS, Value.cells]), get 3 _ (by omega) (by simp [encS, Value.cells]), get 4 _ (by omega) (by simp [encS, Value.cells])⟩
theorem Cv.of_own19 {w : World} {base : Nat} {g : Option Addr} {c : Nat} {l : List Pat.Cond} (h : w.ownsRow base 135 4 (.slice g l.length c) l.length (cellsC l)) : Cv w g l := by
  intro i x hx
  have hi : i < l.length := (List.getElem?_eq_some_iff.1 hx).1
  rcases h.2 with ⟨h0, h1⟩ | ⟨b, cap, cur, he, hr⟩
  · omega
  injection he with he _ _
  subst he
  have hlt := (h.lt b rfl).2
  have hc := h.cells (g := b) rfl
  have hf : ∀ x ∈ l, ((fun x => (encC x).cells.toList) x).length = 4 := fun x _ => by simp [encC, Value.cells]
  have get : ∀ k u, k < 4 → ((encC x).cells.toList)[k]? = some u → w.cell? ⟨b, i * 4 + k, none⟩ = some u := fun k u hk hu => by
    have := hc (i * 4 + k) u ((flat_get hf hx hk).trans hu)
    have hadd : (⟨b, 0, none⟩ : Addr).add (i * 4 + k) = ⟨b, i * 4 + k, none⟩ := by unfold Addr.add; split <;> simp_all
    rwa [hadd] at this
  exact ⟨b, rfl, hlt, get 0 _ (by omega) (by simp [encC, Value.cells]), get 1 _ (by omega) (by simp [encC, Value.cells]), get 2 _ (by omega) (by simp [encC, Value.cells]), get 3 _ (by omega) (by simp [encC, Value.cells])⟩


set_option maxRecDepth 100000 in
set_option maxHeartbeats 3200000 in
theorem planned_plan (s : ByteArray) (w : World) (p : Pat.Pattern) (hx : Pat.parse s.data.toList = some p) : Calls Tryz.prog 10 #[.string s] w (PlnR s.data.toList w) := by
  have gp := parse_good hx
  have hcan : Can s.data.toList ↔ Okay p := by
    constructor
    · rintro ⟨p', h, ho⟩; rw [hx] at h; injection h with h; subst h; exact ho
    · exact fun h => ⟨p, hx, h⟩
  have HX := Lib.hid hx
  have GP := Lib.hid gp
  have HC := Lib.hid hcan
  clear hx gp hcan
  go_enter Tryz.func10, Tryz.ntmps10
  go_wp2_with fail
  refine (rparse s _).mono ?_
  rw [HX.out]
  rintro e w1 ⟨hb, v1, v2, rfl, own1, own2⟩
  obtain ⟨g1, c1, rfl⟩ := own_slice own1
  obtain ⟨g2, c2, rfl⟩ := own_slice own2
  have B1 := (Below.refl w.heap.size w).alloc (Nat.le_refl _) (.cells #[.slice none 0 0, .int .i64 0] 46)
  have Y1 := (Lb.new w #[.slice none 0 0, .int .i64 0] 46).below hb (by simp)
  have Y2 := Y1.alloc (.cells #[.slice g1 p.steps.length c1, .slice g2 p.conds.length c2, .int .i64 p.within] 75)
  have Q2 := Lb.new w1 #[.slice g1 p.steps.length c1, .slice g2 p.conds.length c2, .int .i64 p.within] 75
  have zlt := Y1.lt
  have hB := B1.trans (hb.mono B1.size)
  have B2 := hB.alloc hB.size (.cells #[.slice g1 p.steps.length c1, .slice g2 p.conds.length c2, .int .i64 p.within] 75)
  have A := (Below.refl w1.heap.size w1).alloc (Nat.le_refl _) (.cells #[.slice g1 p.steps.length c1, .slice g2 p.conds.length c2, .int .i64 p.within] 75)
  have s2 := (Sv.of_own19 own1).below A
  have k2 := (Cv.of_own19 own2).below A
  have zne : ¬ w.heap.size = w1.heap.size := by omega
  have zne' : ¬ w1.heap.size = w.heap.size := by omega
  clear hb own1 own2
  go_wp2_with fail
  refine (qcheck_any g1 g2 c1 c2 p _ GP.out (by exact s2) (by exact k2)).mono ?_
  rintro e w3 ⟨⟨a, E, rfl, hE⟩, hb3⟩
  have Y3 := Y2.below hb3 Y2.lt
  have Q3 := Q2.below hb3 Q2.lt
  have s3 := s2.below hb3
  have k3 := k2.below hb3
  have B3 := B2.trans (hb3.mono B2.size)
  have zlt3 := Y3.lt
  rcases hE with ⟨rfl, ho⟩ | ⟨h0, ho⟩
  · have y0 := Q3.cell 0 _ rfl
    have y1 := Q3.cell 1 _ rfl
    have y2 := Q3.cell 2 _ rfl
    have HO := Lib.hid (HC.out.2 ho)
    clear ho s2 k2
    go_wp2_with fail
    refine (qmake_any g1 g2 c1 c2 p _ GP.out (by exact s3) (by exact k3)).mono ?_
    rintro e w4 ⟨⟨g, m, c, n, rfl⟩, hb4⟩
    have Y4 := Y3.below hb4 Y3.lt
    have z0 := Y4.cell 0 _ rfl
    have z1 := Y4.cell 1 _ rfl
    have zf := fun i => Y4.frozen i
    have B4 := B3.trans (hb4.mono B3.size)
    go_wp2
    have Z := (Y4.set 0 (.slice g m c)).set 1 (.int .i64 n)
    have q0 := Z.cell 0 _ rfl
    have q1 := Z.cell 1 _ rfl
    refine bodyPost_ret (v := .tuple #[.agg #[.slice g m c, .int .i64 n], .bool true]) (by simp only [results, Tryz.results10]; simp [go_sem, q0, q1]) rfl ?_
    exact ⟨⟨g, m, c, n, true, rfl, fun _ => HO.out, fun _ => rfl⟩, (B4.setCell (p := ⟨w.heap.size, 0, none⟩) (Nat.le_refl _) _).setCell (p := ⟨w.heap.size, 1, none⟩) (Nat.le_refl _) _⟩
  · have h1 : (E != 0) = true := by rw [bne_iff_ne]; exact h0
    have HN := Lib.hid (fun h => ho (HC.out.1 h))
    have z0 := Y3.cell 0 _ rfl
    have z1 := Y3.cell 1 _ rfl
    have zf := fun i => Y3.frozen i
    clear h0 ho s2 k2 s3 k3
    go_wp2
    have Z := (Y3.set 0 (.slice none 0 0)).set 1 (.int .i64 0)
    have q0 := Z.cell 0 _ rfl
    have q1 := Z.cell 1 _ rfl
    refine bodyPost_ret (v := .tuple #[.agg #[.slice none 0 0, .int .i64 0], .bool false]) (by simp only [results, Tryz.results10]; simp [go_sem, q0, q1]) rfl ?_
    exact PlnR.no HN.out ((B3.setCell (p := ⟨w.heap.size, 0, none⟩) (Nat.le_refl _) _).setCell (p := ⟨w.heap.size, 1, none⟩) (Nat.le_refl _) _)

/-- planned. -/
theorem planned_any (s : ByteArray) (w : World) : Calls Tryz.prog 10 #[.string s] w (PlnR s.data.toList w) := by
  rcases hx : Pat.parse s.data.toList with _ | p
  · exact planned_text s w hx
  · exact planned_plan s w p hx
end Go.Proofs.YthbiiccblcoogaaGreatDoor

/- The law's configuration. -/
namespace Go.Proofs.YthbiiccblcoogaaGreatDoor
open Go.RowKit

def nr (n m : Int) : Int := (if n < 0 then -(n + 1) else n) % m
theorem nr_lo (n m : Int) (hm : 0 < m) : 0 ≤ nr n m := Int.emod_nonneg _ (by omega)
theorem nr_hi (n m : Int) (hm : 0 < m) : nr n m < m := Int.emod_lt_of_pos _ hm

set_option maxHeartbeats 800000 in
theorem at_any (n m : Int) (w : World) (h1 : -9223372036854775808 ≤ n) (h2 : n ≤ 9223372036854775807) (hm : 0 < m) (hm2 : m ≤ 1048576) :
    Calls Tryz.prog 20 #[.int .i64 n, .int .i64 m] w fun e w' => e = .returned (.int .i64 (nr n m)) ∧ w = w' := by
  by_cases hn : n < 0
  · go_enter Tryz.func20, Tryz.ntmps20
    go_wp2
    go_ret
    exact ⟨ret_eq (by unfold nr; rw [if_pos hn, ← Int.tmod_eq_emod_of_nonneg (by omega)]; exact congrArg (Value.int .i64) (by rw [Int.neg_tmod])), rfl⟩
  · go_enter Tryz.func20, Tryz.ntmps20
    go_wp2
    go_ret
    exact ⟨ret_eq (by unfold nr; rw [if_neg (by omega)]; rfl), rfl⟩

/-- What a call of 'config' gives. -/
def CfgR (w : World) (e : Ending) (w' : World) : Prop :=
  (∃ (a b c d f g h : Int) (q : Option Addr) (n m : Nat), e = .returned (.agg #[.int .i64 1073741824, .int .i64 a, .int .i64 b, .int .i64 c, .int .i64 d, .int .i64 f, .int .i64 g, .int .i64 h, .slice q n m])) ∧ Below w.heap.size w w'

theorem und23 : Tryz.prog.underlying 23 = some (.slice 3) := by kernel_rfl
theorem info3 : (Tryz.prog.info? 3).map (fun i => (i.zero, i.size, i.bytes)) = some (some (.int .i64 0), 1, 8) := by kernel_rfl
theorem app_nil (ty : TypeId) (a : Option Addr) (c : Nat) (w : World) : (Builtin.append_ #[23, 23] ty #[.slice none 0 0, .slice a 0 c]).run Tryz.prog w = .ok (.slice none 0 0) w := by
  obtain ⟨i, hi, _, hs, _⟩ := info_parts info3
  rcases a with _ | a <;> simp [Builtin.append_, run_underlying und23, sizeOf, typeInfo, hi, Builtin.lenOf, Builtin.firstCells, loadCells, loadCellsFrom]

theorem step_append_nil {ops : Array Oper} {o : Oper} {a : Act} {w : World} {K : Act → World → Prop} {Q : Exit → Act → World → Prop} {E : Prop} (hgd : o.guard = none) (s x : Operand)
    (ho : o.op = .call { callee := .builtin .append, args := #[s, x], argTypes := #[23, 23] }) (ao : Option Addr) (c : Nat) (hs : a.eval s = .slice none 0 0) (hx : a.eval x = .slice ao 0 c)
    (h : K (a.put o.dst (.slice none 0 0)) w) : if Region.wanted o (yielded ops a.tmps) = true then Oper.wp Tryz.prog o a w K Q else E := by
  have hw : Region.wanted o (yielded ops a.tmps) = true := by simp [Region.wanted, hgd]
  rw [if_pos hw]
  have hr := app_nil o.type ao c w
  unfold Oper.wp execOp
  simp only [ho, resolve, invoke, builtin, Sem.run_bind, Sem.run_pure, Result.andThen_ok, List.map_toArray, List.map_cons, List.map_nil, hs, hx, hr]
  exact h

theorem Lb.drew {W : World} {B T : Nat} {z : Array Value} (h : Lb W B z T) : Lb W.drew B z T := h

structure I64 (n : Int) : Prop where
  lo : -9223372036854775808 ≤ n
  hi : n ≤ 9223372036854775807

end Go.Proofs.YthbiiccblcoogaaGreatDoor
