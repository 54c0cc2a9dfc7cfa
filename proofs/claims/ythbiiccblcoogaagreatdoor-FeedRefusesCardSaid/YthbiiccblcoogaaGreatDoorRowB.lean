/- The row's arguments, opened: the events' cells, the eight fields, the coins; what the reach pays. -/
import Derived.Test.YthbiiccblcoogaaGreatDoorProg
import Derived.Deep.Slices
import Derived.Deep.Fields
import Derived.ChangeSame
import Derived.ChangeSlices
import Derived.ChangeMaps5
import Derived.Lib.SmallJoins
import Derived.SizedLaws
import Derived.KernelRfl
set_option linter.unusedVariables false
set_option linter.unusedSimpArgs false
namespace Go.Proofs.YthbiiccblcoogaaGreatDoor
open Go.Joins Go.ChangeShapes Go.WideShapes Go.RowKit Go.Deep

theorem evs_size : Tryz.prog.cellsOf 55 = 4 := by kernel_rfl
theorem evs_bytes : Tryz.prog.bytesOf 55 = 32 := by kernel_rfl
theorem int_bytes : Tryz.prog.bytesOf 3 = 8 := by kernel_rfl
theorem int_size : Tryz.prog.cellsOf 3 = 1 := by kernel_rfl
theorem mix_size : Tryz.prog.cellsOf 25 = 8 := by kernel_rfl
theorem t2 : Tryz.prog.underlying 2 = some (.int .i64) := by kernel_rfl
theorem t3 : Tryz.prog.underlying 3 = some (.int .i64) := by kernel_rfl

/-- An integer of the widest kind keeps its bounds. -/
theorem wf_bounds {n : Int} (h : (Lit.int .i64 n).wf = true) : -9223372036854775808 ≤ n ∧ n ≤ 9223372036854775807 := by
  simp [Lit.wf, IntKind.min, IntKind.max, IntKind.signed, IntKind.bits] at h
  omega

variable {H : Type} {enc : TypeId × Value → H} {W : World}

theorem place_of_cell {a : Addr} {v : Value} (h : W.cell? a = some v) : a = ⟨a.block, a.off, none⟩ ∧ a.block < W.heap.size := by
  refine ⟨?_, World.block_lt_of_cell? W _ h⟩
  obtain ⟨b, o, s⟩ := a
  unfold World.cell? at h
  cases s with
  | none => rfl
  | some x =>
    exfalso
    dsimp only at h
    split at h
    · simp at h
    · cases h

set_option maxRecDepth 100000 in
theorem open_events {r : Reach} {b0 : Nat} {v : Value} {d : DataW H} {p : List MemPlace} (hval : Value.okWide Tryz.prog W r b0 22 v) (h : DataW.Trod enc Tryz.prog W 0 (fun _ => true) true 22 v d p) :
    ∃ (g : Option Addr) (n cp : Nat), v = .slice g n cp ∧ (n = 0 ∨ ∃ es sp : List (DataW H), d = .slice es sp ∧ n ≤ es.length + sp.length) ∧
      ∀ i, i < n → ∃ (b off : Nat) (m : Bool) (t kk x : Int), g = some ⟨b, off, none⟩ ∧ b < W.heap.size ∧ W.cell? ⟨b, off + i * 4, none⟩ = some (.bool m) ∧ W.cell? ⟨b, off + i * 4 + 1, none⟩ = some (.int .i64 t) ∧
        W.cell? ⟨b, off + i * 4 + 2, none⟩ = some (.int .u8 kk) ∧ W.cell? ⟨b, off + i * 4 + 3, none⟩ = some (.int .i64 x) := by
  obtain ⟨g, n, cp, rfl⟩ := okWide_slice Tryz.underlying22 hval
  obtain ⟨fuel, hf⟩ := h
  rcases open_slice Tryz.underlying22 hf with ⟨hcs, _⟩ | ⟨a, len, cap, m, n', D, Pl, hcs, _, hl, _, hm, hx, hi⟩
  · simp [Value.cells] at hcs
    obtain ⟨rfl, rfl, rfl⟩ := hcs
    exact ⟨_, _, _, rfl, .inl rfl, fun i hi => absurd hi (by omega)⟩
  · simp [Value.cells] at hcs
    obtain ⟨rfl, rfl, rfl⟩ := hcs
    simp only [Prod.mk.injEq] at hx
    refine ⟨_, _, _, rfl, .inr ⟨_, _, hx.1, by simp⟩, ?_⟩
    have each : ∀ i, i < n → ∃ (mk : Bool) (t kk x : Int), W.cell? (a.add (i * 4)) = some (.bool mk) ∧ W.cell? (a.add (i * 4 + 1)) = some (.int .i64 t) ∧ W.cell? (a.add (i * 4 + 2)) = some (.int .u8 kk) ∧ W.cell? (a.add (i * 4 + 3)) = some (.int .i64 x) := by
      intro i hin
      obtain ⟨cs', hc, ht'⟩ := hi i (by rw [hm]; simp only [if_true]; omega)
      rw [evs_size] at hc
      obtain ⟨_, hcl, hat⟩ := World.cells?_some hc
      match cs', hcl with
      | [c0, c1, c2, c3], _ =>
        obtain ⟨ys, n1, _, _, _, _, hfs⟩ := DataW.trod_struct Tryz.underlying55 ht'
        have o4 : Tryz.prog.cellsOf 4 = 1 := by kernel_rfl
        have o2 : Tryz.prog.cellsOf 2 = 1 := by kernel_rfl
        have o5 : Tryz.prog.cellsOf 5 = 1 := by kernel_rfl
        have f0 : DataW.trod enc Tryz.prog W 0 (fun _ => true) true n1 4 (([c0, c1, c2, c3].drop 0).take (Tryz.prog.cellsOf 4)) = ys[0]? := hfs 0 _ rfl
        have f1 : DataW.trod enc Tryz.prog W 0 (fun _ => true) true n1 2 (([c0, c1, c2, c3].drop 1).take (Tryz.prog.cellsOf 2)) = ys[1]? := hfs 1 _ rfl
        have f2 : DataW.trod enc Tryz.prog W 0 (fun _ => true) true n1 5 (([c0, c1, c2, c3].drop 2).take (Tryz.prog.cellsOf 5)) = ys[2]? := hfs 2 _ rfl
        have f3 : DataW.trod enc Tryz.prog W 0 (fun _ => true) true n1 2 (([c0, c1, c2, c3].drop 3).take (Tryz.prog.cellsOf 2)) = ys[3]? := hfs 3 _ rfl
        rw [o4] at f0
        rw [o2] at f1 f3
        rw [o5] at f2
        have hyl : ys.length = 4 := by assumption
        match ys, hyl with
        | [y0, y1, y2, y3], _ =>
          have a0 := hat 0 (by omega)
          have a1 := hat 1 (by omega)
          have a2 := hat 2 (by omega)
          have a3 := hat 3 (by omega)
          rw [add_add] at a0 a1 a2 a3
          obtain ⟨mk, e0, _⟩ := DataW.trod_bool Tryz.underlying4 (cs := [c0]) (x := y0) f0
          obtain ⟨t, e1, _⟩ := DataW.trod_int t2 (cs := [c1]) (x := y1) f1
          obtain ⟨kk, e2, _⟩ := DataW.trod_int Tryz.underlying5 (cs := [c2]) (x := y2) f2
          obtain ⟨x, e3, _⟩ := DataW.trod_int t2 (cs := [c3]) (x := y3) f3
          simp only [List.cons.injEq, and_true] at e0 e1 e2 e3
          subst e0; subst e1; subst e2; subst e3
          exact ⟨mk, t, kk, x, a0, a1, a2, a3⟩
    intro i hin
    obtain ⟨_, _, _, _, z0, _⟩ := each 0 (by omega)
    rw [Nat.zero_mul, show a.add 0 = a from rfl] at z0
    obtain ⟨ha, hb⟩ := place_of_cell z0
    obtain ⟨mk, t, kk, x, c0, c1, c2, c3⟩ := each i hin
    have add : ∀ k, a.add k = ⟨a.block, a.off + k, none⟩ := by
      intro k
      unfold Addr.add
      split
      · rename_i e; subst e; simpa using ha
      · rfl
    rw [add] at c0 c1 c2 c3
    exact ⟨a.block, a.off, mk, t, kk, x, by rw [← ha], hb, c0, by simpa [Nat.add_assoc] using c1, by simpa [Nat.add_assoc] using c2, by simpa [Nat.add_assoc] using c3⟩
#print axioms open_events
end Go.Proofs.YthbiiccblcoogaaGreatDoor

/- The row's third argument, opened: seven numbers and the coins; what the reach pays. -/
namespace Go.Proofs.YthbiiccblcoogaaGreatDoor
open Go.Joins Go.ChangeShapes Go.WideShapes Go.RowKit Go.Deep

variable {H : Type} {enc : TypeId × Value → H} {W : World}

/-- What the coins are. -/
def Coined (W : World) (q : Option Addr) (k kc : Nat) : Prop :=
  k = 0 ∨ ∃ (ad : Addr) (zs : List Int), q = some ad ∧ 1 ≤ k ∧ zs.length = k ∧ k ≤ kc ∧ ∀ j z, zs[j]? = some z → W.cell? (ad.add j) = some (.int .i64 z)

theorem coined {n : Nat} {c7 : Value} {y7 : DataW H × List MemPlace} (f7 : DataW.trod enc Tryz.prog W 0 (fun _ => true) true n 23 [c7] = some y7) :
    ∃ (q : Option Addr) (k kc : Nat), c7 = .slice q k kc ∧ Coined W q k kc ∧ (k = 0 ∨ ∃ (es sp : List (DataW H)), y7.1 = .slice es sp ∧ kc = es.length + sp.length) := by
  rcases open_ints Tryz.underlying23 t3 int_size f7 with ⟨hcs, _⟩ | ⟨a, len, cap, zs, hcs, _, hl, _, hzl, hx, hc, _⟩
  · simp only [List.cons.injEq, and_true] at hcs
    subst hcs
    exact ⟨_, _, _, rfl, .inl rfl, .inl rfl⟩
  · simp only [List.cons.injEq, and_true] at hcs
    subst hcs
    simp only [if_true] at hzl
    by_cases h0 : len = 0
    · exact ⟨_, _, _, rfl, .inl h0, .inl h0⟩
    · refine ⟨_, _, _, rfl, .inr ⟨a, zs.take len, rfl, by omega, by simp; omega, hl, fun j z hz => ?_⟩, .inr ⟨_, _, by rw [hx], by simp [lits]; omega⟩⟩
      rw [List.getElem?_take] at hz
      split at hz
      · have := hc j (by have := (List.getElem?_eq_some_iff.1 hz).1; omega)
        rw [this]
        simp [List.getD, hz]
      · cases hz

set_option maxRecDepth 100000 in
theorem open_mix {r : Reach} {b0 : Nat} {v : Value} {d : DataW H} {p : List MemPlace} (hval : Value.okWide Tryz.prog W r b0 25 v) (h : DataW.Trod enc Tryz.prog W 0 (fun _ => true) true 25 v d p) :
    ∃ (M B C F Z Ba Ra : Int) (q : Option Addr) (k kc : Nat), v = .agg #[.int .i64 M, .int .i64 B, .int .i64 C, .int .i64 F, .int .i64 Z, .int .i64 Ba, .int .i64 Ra, .slice q k kc] ∧
      ((Lit.int .i64 M).wf = true ∧ (Lit.int .i64 B).wf = true ∧ (Lit.int .i64 C).wf = true ∧ (Lit.int .i64 F).wf = true) ∧ Coined W q k kc ∧
      (k = 0 ∨ ∃ (d0 d1 d2 d3 d4 d5 d6 : DataW H) (es sp : List (DataW H)), d = .agg [d0, d1, d2, d3, d4, d5, d6, .slice es sp] ∧ kc = es.length + sp.length) := by
  obtain ⟨cs, rfl, hsz⟩ := okWide_struct Tryz.underlying25 hval
  obtain ⟨l⟩ := cs
  match l, hsz.trans mix_size with
  | [c0, c1, c2, c3, c4, c5, c6, c7], _ =>
    obtain ⟨fuel, hf⟩ := h
    obtain ⟨ys, n1, _, hx, _, hyl, hfs⟩ := DataW.trod_struct Tryz.underlying25 hf
    have o2 : Tryz.prog.cellsOf 2 = 1 := by kernel_rfl
    have o23 : Tryz.prog.cellsOf 23 = 1 := by kernel_rfl
    have f0 : DataW.trod enc Tryz.prog W 0 (fun _ => true) true n1 2 (([c0, c1, c2, c3, c4, c5, c6, c7].drop 0).take (Tryz.prog.cellsOf 2)) = ys[0]? := hfs 0 _ rfl
    have f1 : DataW.trod enc Tryz.prog W 0 (fun _ => true) true n1 3 (([c0, c1, c2, c3, c4, c5, c6, c7].drop 1).take (Tryz.prog.cellsOf 3)) = ys[1]? := hfs 1 _ rfl
    have f2 : DataW.trod enc Tryz.prog W 0 (fun _ => true) true n1 3 (([c0, c1, c2, c3, c4, c5, c6, c7].drop 2).take (Tryz.prog.cellsOf 3)) = ys[2]? := hfs 2 _ rfl
    have f3 : DataW.trod enc Tryz.prog W 0 (fun _ => true) true n1 2 (([c0, c1, c2, c3, c4, c5, c6, c7].drop 3).take (Tryz.prog.cellsOf 2)) = ys[3]? := hfs 3 _ rfl
    have f4 : DataW.trod enc Tryz.prog W 0 (fun _ => true) true n1 3 (([c0, c1, c2, c3, c4, c5, c6, c7].drop 4).take (Tryz.prog.cellsOf 3)) = ys[4]? := hfs 4 _ rfl
    have f5 : DataW.trod enc Tryz.prog W 0 (fun _ => true) true n1 2 (([c0, c1, c2, c3, c4, c5, c6, c7].drop 5).take (Tryz.prog.cellsOf 2)) = ys[5]? := hfs 5 _ rfl
    have f6 : DataW.trod enc Tryz.prog W 0 (fun _ => true) true n1 2 (([c0, c1, c2, c3, c4, c5, c6, c7].drop 6).take (Tryz.prog.cellsOf 2)) = ys[6]? := hfs 6 _ rfl
    have f7 : DataW.trod enc Tryz.prog W 0 (fun _ => true) true n1 23 (([c0, c1, c2, c3, c4, c5, c6, c7].drop 7).take (Tryz.prog.cellsOf 23)) = ys[7]? := hfs 7 _ rfl
    rw [o2] at f0 f3 f5 f6
    rw [int_size] at f1 f2 f4
    rw [o23] at f7
    have hy8 : ys.length = 8 := hyl
    match ys, hy8 with
    | [y0, y1, y2, y3, y4, y5, y6, y7], _ =>
      obtain ⟨M, e0, _, w0⟩ := DataW.trod_int t2 (cs := [c0]) (x := y0) f0
      obtain ⟨B, e1, _, w1⟩ := DataW.trod_int t3 (cs := [c1]) (x := y1) f1
      obtain ⟨C, e2, _, w2⟩ := DataW.trod_int t3 (cs := [c2]) (x := y2) f2
      obtain ⟨F, e3, _, w3⟩ := DataW.trod_int t2 (cs := [c3]) (x := y3) f3
      obtain ⟨Z, e4, _, w4⟩ := DataW.trod_int t3 (cs := [c4]) (x := y4) f4
      obtain ⟨Ba, e5, _, w5⟩ := DataW.trod_int t2 (cs := [c5]) (x := y5) f5
      obtain ⟨Ra, e6, _, w6⟩ := DataW.trod_int t2 (cs := [c6]) (x := y6) f6
      obtain ⟨q, k, kc, rfl, hco, hw⟩ := coined (y7 := y7) (c7 := c7) f7
      simp only [List.cons.injEq, and_true] at e0 e1 e2 e3 e4 e5 e6
      subst e0; subst e1; subst e2; subst e3; subst e4; subst e5; subst e6
      refine ⟨M, B, C, F, Z, Ba, Ra, q, k, kc, rfl, ⟨w0, w1, w2, w3⟩, hco, ?_⟩
      rcases hw with hw | ⟨es, sp, h7, hk⟩
      · exact .inl hw
      · refine .inr ⟨y0.1, y1.1, y2.1, y3.1, y4.1, y5.1, y6.1, es, sp, ?_, hk⟩
        simp only [Prod.mk.injEq] at hx
        rw [hx.1, ← h7]
        rfl

/-- The reach pays the coins. -/
theorem coins_paid {ts : List TypeId} {ds : List (DataW H)} (hsz : (DataW.weightsEach Tryz.prog ts ds).all (· ≤ reachBytes) = true) {j : Nat} {d0 d1 d2 d3 d4 d5 d6 : DataW H} {es sp : List (DataW H)}
    (ht : ts[j]? = some 25) (hd : ds[j]? = some (.agg [d0, d1, d2, d3, d4, d5, d6, .slice es sp])) : (es.length + sp.length) * 8 ≤ 140737488351232 := by
  have := List.all_eq_true.1 hsz _ (DataW.weights_mem_each ht hd ((es.length + sp.length) * Tryz.prog.bytesOf 3) (by simp [DataW.weights, DataW.weightsEach, Tryz.underlying25, Tryz.underlying23]))
  rw [int_bytes] at this
  have h2 := of_decide_eq_true this
  unfold reachBytes at h2
  omega
theorem events_paid {ts : List TypeId} {ds : List (DataW H)} (hsz : (DataW.weightsEach Tryz.prog ts ds).all (· ≤ reachBytes) = true) {j : Nat} {es sp : List (DataW H)}
    (ht : ts[j]? = some 22) (hd : ds[j]? = some (.slice es sp)) : (es.length + sp.length) * 32 ≤ 140737488351232 := by
  have := sized_slice hsz ht hd Tryz.underlying22
  rw [evs_bytes] at this
  simpa [reachBytes] using this
#print axioms open_mix
#print axioms coins_paid
#print axioms events_paid
end Go.Proofs.YthbiiccblcoogaaGreatDoor
