/- plan.Make and plan.Compile of what can't be run. -/
import Derived.Test.YthbiiccblcoogaaGreatDoorPlanD
set_option linter.unusedVariables false
set_option linter.unusedSimpArgs false
namespace Go.Proofs.YthbiiccblcoogaaGreatDoor
open Go.RowKit

theorem flat_get {α : Type} {f : α → List Value} {m : Nat} : ∀ {l : List α} (hf : ∀ x ∈ l, (f x).length = m) {i : Nat} {x : α} {k : Nat}, l[i]? = some x → k < m → (l.flatMap f)[i * m + k]? = (f x)[k]?
  | [], _, i, x, k, h, _ => by simp at h
  | y :: l, hf, 0, x, k, h, hk => by
    simp at h; subst h
    have := hf y (by simp)
    rw [List.flatMap_cons, List.getElem?_append_left (by omega)]
    simp
  | y :: l, hf, i + 1, x, k, h, hk => by
    have hy := hf y (by simp)
    rw [List.flatMap_cons, List.getElem?_append_right (by rw [hy, Nat.succ_mul]; omega)]
    have e : (i + 1) * m + k - (f y).length = i * m + k := by rw [hy, Nat.succ_mul]; omega
    rw [e]
    exact flat_get (fun z hz => hf z (by simp [hz])) (by simpa using h) hk

theorem Sv.of_own {w : World} {base : Nat} {g : Option Addr} {c : Nat} {l : List Pat.Step} (h : w.ownsRow base 342 5 (.slice g l.length c) l.length (cellsS l)) : Sv w g l := by
  intro i x hx
  have hi : i < l.length := (List.getElem?_eq_some_iff.1 hx).1
  rcases h.2 with ⟨h0, h1⟩ | ⟨b, cap, cur, he, hr⟩
  · omega
  injection he with he _ _
  subst he
  have hlt := (h.lt b rfl).2
  have hc := h.cells (g := b) rfl
  have hf : ∀ x ∈ l, ((fun x => (encS x).cells.toList) x).length = 5 := fun x _ => by simp [encS, Value.cells]
  have get : ∀ k u, k < 5 → ((encS x).cells.toList)[k]? = some u → w.cell? ⟨b, i * 5 + k, none⟩ = some u := fun k u hk hu => by
    have := hc (i * 5 + k) u ((flat_get hf hx hk).trans hu)
    have hadd : (⟨b, 0, none⟩ : Addr).add (i * 5 + k) = ⟨b, i * 5 + k, none⟩ := by unfold Addr.add; split <;> simp_all
    rwa [hadd] at this
  exact ⟨b, rfl, hlt, get 0 _ (by omega) (by simp [encS, Value.cells]), get 1 _ (by omega) (by simp [encS, Value.cells]), get 2 _ (by omega) (by simp [encS, Value.cells]), get 3 _ (by omega) (by simp [encS, Value.cells]), get 4 _ (by omega) (by simp [encS, Value.cells])⟩
theorem Cv.of_own {w : World} {base : Nat} {g : Option Addr} {c : Nat} {l : List Pat.Cond} (h : w.ownsRow base 350 4 (.slice g l.length c) l.length (cellsC l)) : Cv w g l := by
  intro i x hx
  have hi : i < l.length := (List.getElem?_eq_some_iff.1 hx).1
  rcases h.2 with ⟨h0, h1⟩ | ⟨b, cap, cur, he, hr⟩
  · omega
  injection he with he _ _
  subst he
  have hlt := (h.lt b rfl).2
  have hc := h.cells (g := b) rfl
  have hf : ∀ x ∈ l, ((fun x => (encC x).cells.toList) x).length = 4 := fun x _ => by simp [encC, Value.cells]
  have get : ∀ k u, k < 4 → ((encC x).cells.toList)[k]? = some u → w.cell? ⟨b, i * 4 + k, none⟩ = some u := fun k u hk hu => by
    have := hc (i * 4 + k) u ((flat_get hf hx hk).trans hu)
    have hadd : (⟨b, 0, none⟩ : Addr).add (i * 4 + k) = ⟨b, i * 4 + k, none⟩ := by unfold Addr.add; split <;> simp_all
    rwa [hadd] at this
  exact ⟨b, rfl, hlt, get 0 _ (by omega) (by simp [encC, Value.cells]), get 1 _ (by omega) (by simp [encC, Value.cells]), get 2 _ (by omega) (by simp [encC, Value.cells]), get 3 _ (by omega) (by simp [encC, Value.cells])⟩

/-- An error that isn't a loss of power. -/
def ErrE (E : Int) : Prop := E ≠ 0 ∧ E ≠ 13

set_option maxRecDepth 100000 in
set_option maxHeartbeats 1600000 in
theorem make_bad (g1 g2 : Option Addr) (c1 c2 : Nat) (p : Pat.Pattern) (w : World) (gp : GoodP p) (hs : Sv w g1 p.steps) (hc : Cv w g2 p.conds) (ho : ¬ Okay p) :
    Calls Tryz.prog 109 #[.agg #[.slice g1 p.steps.length c1, .slice g2 p.conds.length c2, .int .i64 p.within]] w fun e w' => (∃ a E, e = .returned (.tuple #[.agg #[.slice none 0 0, .int .i64 0], .int .i64 a, .int .i64 E]) ∧ ErrE E) ∧ Below w.heap.size w w' := by
  have HO := Lib.hid ho
  clear ho
  have GP := Lib.hid gp
  clear gp
  go_enter Tryz.func109, Tryz.ntmps109
  go_wp2_with fail
  have B1 := ((Below.refl w.heap.size w).alloc (Nat.le_refl _) (.cells #[.slice g1 p.steps.length c1, .slice g2 p.conds.length c2, .int .i64 p.within] 242)).alloc (by simp) (.cells #[.slice none 0 0, .int .i64 0] 95)
  have Y0 := Lb.new (w.alloc (.cells #[.slice g1 p.steps.length c1, .slice g2 p.conds.length c2, .int .i64 p.within] 242)) #[.slice none 0 0, .int .i64 0] 95
  simp only [sz_alloc] at Y0
  refine (check_any g1 g2 c1 c2 p _ GP.out (hs.below B1) (hc.below B1)).mono ?_
  rintro e w2 ⟨⟨a, E, rfl, hE⟩, hb2⟩
  have hE' : E = 21 ∨ E = 23 ∨ E = 24 := by
    rcases hE with ⟨_, h⟩ | ⟨h, _⟩
    · exact absurd h HO.out
    · exact h
  have hErr : ErrE E := by unfold ErrE; omega
  have h0 : (E == 0) = false := beq_eq_false_iff_ne.2 hErr.1
  have h1 : (E != 0) = true := by simp [bne, h0]
  have Y2 := Y0.below hb2 Y0.lt
  have y0 := Y2.cell 0 _ rfl
  have y1 := Y2.cell 1 _ rfl
  have yf := fun i => Y2.frozen i
  have hB := B1.trans (hb2.mono B1.size)
  clear hE hE' HO GP B1 Y0 hb2
  have HErr := Lib.hid hErr
  clear hErr
  go_wp2
  have Z := (Y2.set 0 (.slice none 0 0)).set 1 (.int .i64 0)
  have q0 := Z.cell 0 _ rfl
  have q1 := Z.cell 1 _ rfl
  refine bodyPost_ret (v := .tuple #[.agg #[.slice none 0 0, .int .i64 0], .int .i64 a, .int .i64 E]) (by simp only [results, Tryz.results109]; simp [go_sem, q0, q1]) rfl ?_
  exact ⟨⟨a, E, rfl, HErr.out⟩, (hB.setCell (p := ⟨w.heap.size + 1, 0, none⟩) (Nat.le_succ _) _).setCell (p := ⟨w.heap.size + 1, 1, none⟩) (Nat.le_succ _) _⟩
end Go.Proofs.YthbiiccblcoogaaGreatDoor
