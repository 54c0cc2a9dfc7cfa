/- The law's 'both'. -/
import Derived.Test.YthbiiccblcoogaaGreatDoorLawD
import Derived.Deep.DrawnRows
set_option linter.unusedVariables false
set_option linter.unusedSimpArgs false
namespace Go.Proofs.YthbiiccblcoogaaGreatDoor
open Go.RowKit
attribute [local go_sem ↓] Go.wp_at_zero Go.wp_at_succ

theorem info56 : (Tryz.prog.info? 56).map (fun i => (i.zero, i.size, i.bytes)) = some (some (.agg #[.bool false, .int .i64 0, .int .u8 0, .int .i64 0]), 4, 32) := by kernel_rfl
theorem info57 : (Tryz.prog.info? 57).map (fun i => (i.zero, i.size, i.bytes)) = some (some (.agg #[.bool false, .int .i64 0, .int .u8 0, .int .i64 0]), 4, 32) := by kernel_rfl
theorem und26 : Tryz.prog.underlying 26 = some (.slice 56) := by kernel_rfl
theorem und27 : Tryz.prog.underlying 27 = some (.slice 57) := by kernel_rfl

theorem Lb.two (W : World) (z : Array Value) (T : TypeId) (o : Obj) : Lb ((W.alloc o).alloc (.cells z T)) (W.heap.size + 1) z T := by
  have := Lb.new (W.alloc o) z T
  simpa only [sz_alloc] using this

/-- The items, where they can be read. -/
def Iv (w : World) (g : Option Addr) (n : Nat) : Prop :=
  ∀ i, i < n → ∃ (b off : Nat) (m : Bool) (t kk v : Int), g = some ⟨b, off, none⟩ ∧ b < w.heap.size ∧ w.cell? ⟨b, off + i * 4, none⟩ = some (.bool m) ∧ w.cell? ⟨b, off + i * 4 + 1, none⟩ = some (.int .i64 t) ∧
    w.cell? ⟨b, off + i * 4 + 2, none⟩ = some (.int .u8 kk) ∧ w.cell? ⟨b, off + i * 4 + 3, none⟩ = some (.int .i64 v)
theorem Iv.below {w w' : World} {g : Option Addr} {n : Nat} (h : Iv w g n) (hb : Below w.heap.size w w') : Iv w' g n := by
  intro i hi
  obtain ⟨b, off, m, t, kk, v, h1, h2, h3, h4, h5, h6⟩ := h i hi
  exact ⟨b, off, m, t, kk, v, h1, Nat.lt_of_lt_of_le h2 hb.size, by rw [hb.cell h2]; exact h3, by rw [hb.cell h2]; exact h4, by rw [hb.cell h2]; exact h5, by rw [hb.cell h2]; exact h6⟩

/-- Two lists of the call's own, apart from one another. -/
structure Tw (B : Nat) (W : World) (k : Nat) (va vb : Value) : Prop where
  a : ∃ xs, W.ownsRow B 56 4 va k xs
  b : ∃ xs, W.ownsRow B 57 4 vb k xs
  ne : va.ownBlock = none ∨ va.ownBlock ≠ vb.ownBlock

theorem Tw.next {B k g1 g2 c1 c2 H : Nat} {V2 w2 : World} {vb : Value} {xs ys : List Value} (own1 : V2.ownsRow B 56 4 (.slice (some ⟨g1, 0, none⟩) (k + 1) c1) (k + 1) xs) (own2 : w2.ownsRow B 57 4 (.slice (some ⟨g2, 0, none⟩) (k + 1) c2) (k + 1) ys)
    (grow2 : V2.grownBy w2 vb.ownBlock) (n1 : vb.ownBlock ≠ some g1) (at2 : vb.ownBlock = some g2 ∨ g2 = H) (hH : g1 < H) : Tw B w2 (k + 1) (.slice (some ⟨g1, 0, none⟩) (k + 1) c1) (.slice (some ⟨g2, 0, none⟩) (k + 1) c2) := by
  refine ⟨⟨xs, own1.kept grow2 (.inr fun e => n1 e.symm)⟩, ⟨ys, own2⟩, .inr fun e => ?_⟩
  have e' : g1 = g2 := by simpa [Value.ownBlock] using e
  rcases at2 with h | h
  · exact n1 (by rw [h, e'])
  · omega
theorem apart {va vb : Value} {g1 H N : Nat} (ne : vb.ownBlock = none ∨ vb.ownBlock ≠ va.ownBlock) (at1 : va.ownBlock = some g1 ∨ g1 = H) (hH : N ≤ H) (lt : ∀ q, vb.ownBlock = some q → q < N) : vb.ownBlock ≠ some g1 := by
  intro e
  rcases at1 with h | h
  · rcases ne with h' | h'
    · rw [h'] at e; cases e
    · exact h' (by rw [e, h])
  · have := lt _ e; omega

/-- What a call of 'both' gives. -/
def BothR (w : World) (e : Ending) (w' : World) : Prop :=
  (∃ (g1 g2 : Option Addr) (n1 n2 c1 c2 : Nat), e = .returned (.tuple #[.slice g1 n1 c1, .slice g2 n2 c2])) ∧ Below w.heap.size w w'

set_option maxRecDepth 100000 in
set_option maxHeartbeats 3200000 in
theorem both_any (g : Option Addr) (n cp : Nat) (w : World) (hn : n * 32 ≤ 140737488355328) (hv : Iv w g n) : Calls Tryz.prog 4 #[.slice g n cp] w (BothR w) := by
  obtain ⟨i0, hi0, hi1, hi2, hi3⟩ := info_parts info56
  obtain ⟨j0, hj0, hj1, hj2, hj3⟩ := info_parts info57
  have HV := Lib.hid hv
  clear hv
  go_enter Tryz.func4, Tryz.ntmps4
  go_wp2_with fail
  go_loopw [4, 5, 10] (fun v4 v5 v10 wr => ∃ k : Nat, k ≤ n ∧ v10 = .int .i64 k ∧ Below w.heap.size w wr ∧ Tw w.heap.size wr k v4 v5) (fun _ _ v10 _ => n - (intOf v10).toNat)
  case atStart => exact ⟨0, Nat.zero_le _, rfl, Below.refl _ _, ⟨[], World.ownsRow_nil _ _ _ _⟩, ⟨[], World.ownsRow_nil _ _ _ _⟩, .inl rfl⟩
  case round =>
    obtain ⟨k, hk, rfl, hb, hT⟩ := hrel
    obtain ⟨⟨xa, oa⟩, ⟨xb, ob⟩, ne⟩ := hT
    obtain ⟨ga, ca, rfl⟩ := own_slice oa
    obtain ⟨gb, cb, rfl⟩ := own_slice ob
    by_cases hlt : k < n
    · obtain ⟨b, off, m, t, kk, v, rfl, hbb, e0, e1, e2, e3⟩ := (HV.out.below hb) k hlt
      have hkk : (k : Int) < n := by omega
      go_wp2_with fail
      generalize hW : wr.alloc (.cells #[.bool m, .int .i64 t, .int .u8 kk, .int .i64 v] 55) = W
      have X2 : Lb W wr.heap.size #[.bool m, .int .i64 t, .int .u8 kk, .int .i64 v] 55 := by rw [← hW]; exact Lb.new wr _ 55
      have OA : W.ownsRow w.heap.size 56 4 (.slice ga k ca) k xa := by rw [← hW]; exact oa.alloc _
      have OB : W.ownsRow w.heap.size 57 4 (.slice gb k cb) k xb := by rw [← hW]; exact ob.alloc _
      have BW : Below w.heap.size w W := by rw [← hW]; exact hb.alloc hb.size _
      have hWz : wr.heap.size + 1 = W.heap.size := by rw [← hW]; simp
      have FA0 : ∀ q, wr.heap.size ≤ q → some q ≠ (Value.slice ga k ca).ownBlock := fun q hq e => by have := oa.lt _ e.symm; omega
      have FB0 : ∀ q, wr.heap.size ≤ q → some q ≠ (Value.slice gb k cb).ownBlock := fun q hq e => by have := ob.lt _ e.symm; omega
      have FA : ∀ q, W.heap.size ≤ q → some q ≠ (Value.slice ga k ca).ownBlock := fun q hq => FA0 q (by omega)
      have NE : (Value.slice gb k cb).ownBlock = none ∨ (Value.slice gb k cb).ownBlock ≠ (Value.slice ga k ca).ownBlock := by
        rcases ne with h | h
        · rw [h]
          rcases (Value.slice gb k cb).ownBlock with _ | q
          · exact .inl rfl
          · right; simp
        · exact .inr fun e => h e.symm
      have hBW := BW.size
      clear hW
      have x0 := X2.cell 0 _ rfl
      have x1 := X2.cell 1 _ rfl
      have x2 := X2.cell 2 _ rfl
      have x3 := X2.cell 3 _ rfl
      have HX := Lib.hid X2
      have HFA := Lib.hid FA
      have HFA0 := Lib.hid FA0
      have HFB0 := Lib.hid FB0
      have HNE := Lib.hid NE
      have HNE0 := Lib.hid ne
      clear X2 FA FA0 FB0 NE ne
      go_region_held3 (fun w' => w'.cell? ⟨wr.heap.size, 0, none⟩ = some (.bool m) ∧ w'.cell? ⟨wr.heap.size, 1, none⟩ = some (.int .i64 t) ∧ w'.cell? ⟨wr.heap.size, 2, none⟩ = some (.int .u8 kk) ∧ w'.cell? ⟨wr.heap.size, 3, none⟩ = some (.int .i64 v)) (first | go_keep | exact ⟨X2.cell 0 _ rfl, X2.cell 1 _ rfl, X2.cell 2 _ rfl, X2.cell 3 _ rfl⟩ | exact ⟨X1.cell 0 _ rfl, X1.cell 1 _ rfl, X1.cell 2 _ rfl, X1.cell 3 _ rfl⟩)
        (first | (refine step_append_lies _ (by rfl) _ _ _ (by rfl) w.heap.size 56 i0 _ 4 32 und26 hi0 hi1 hi2 hi3 rfl (by omega) (.slice ga k ca) k xa (by rfl) (by exact OA.alloc (.cells #[.bool m, .int .i64 t, .int .u8 kk, .int .i64 v] 56)) ⟨W.heap.size, 0, none⟩ 1 1 [.bool m, .int .i64 t, .int .u8 kk, .int .i64 v] (by rfl) (by rfl) (by exact World.news_of_block (cs := #[.bool m, .int .i64 t, .int .u8 kk, .int .i64 v]) (t := 56) (fr := (0, 0)) (heap_alloc_new W _)) (by simp [Value.oneCell']) (by omega) (by unfold maxLen; omega) (by omega) (by simp; omega) (W.heap.size + 1) (by simp) ?_; intro g1 c1 w1 own1 grow1 at1 lt1; have X1 := (Lb.drew (HX.out.alloc (.cells #[.bool m, .int .i64 t, .int .u8 kk, .int .i64 v] 56))).grown grow1 (HFA0.out _ (Nat.le_refl _)); have O1 := (OB.alloc (.cells #[.bool m, .int .i64 t, .int .u8 kk, .int .i64 v] 56)).drew.kept grow1 HNE.out) | (refine step_append_lies _ (by rfl) _ _ _ (by rfl) w.heap.size 56 i0 _ 4 32 und26 hi0 hi1 hi2 hi3 rfl (by omega) (.slice ga k ca) k xa (by rfl) (by exact (OA.alloc (.cells #[.bool m, .int .i64 t, .int .u8 kk, .int .i64 v] 56)).alloc (.cells #[.bool m, .int .i64 t, .int .u8 kk, .int .i64 v] 57)) ⟨W.heap.size, 0, none⟩ 1 1 [.bool m, .int .i64 t, .int .u8 kk, .int .i64 v] (by rfl) (by rfl) (by exact World.news_of_block (cs := #[.bool m, .int .i64 t, .int .u8 kk, .int .i64 v]) (t := 56) (fr := (0, 0)) ((Lb.new W #[.bool m, .int .i64 t, .int .u8 kk, .int .i64 v] 56).alloc (.cells #[.bool m, .int .i64 t, .int .u8 kk, .int .i64 v] 57))) (by simp [Value.oneCell']) (by omega) (by unfold maxLen; omega) (by omega) (by simp; omega) (W.heap.size + 1 + 1) (by simp) ?_; intro g1 c1 w1 own1 grow1 at1 lt1; have X1 := (Lb.drew ((HX.out.alloc (.cells #[.bool m, .int .i64 t, .int .u8 kk, .int .i64 v] 56)).alloc (.cells #[.bool m, .int .i64 t, .int .u8 kk, .int .i64 v] 57))).grown grow1 (HFA0.out _ (Nat.le_refl _)); have O1 := ((OB.alloc (.cells #[.bool m, .int .i64 t, .int .u8 kk, .int .i64 v] 56)).alloc (.cells #[.bool m, .int .i64 t, .int .u8 kk, .int .i64 v] 57)).drew.kept grow1 HNE.out) | (refine step_append_lies _ (by rfl) _ _ _ (by rfl) w.heap.size 56 i0 _ 4 32 und26 hi0 hi1 hi2 hi3 rfl (by omega) (.slice ga k ca) k xa (by rfl) (by exact (OA.alloc (.cells #[.bool m, .int .i64 t, .int .u8 kk, .int .i64 v] 57)).alloc (.cells #[.bool m, .int .i64 t, .int .u8 kk, .int .i64 v] 56)) ⟨W.heap.size + 1, 0, none⟩ 1 1 [.bool m, .int .i64 t, .int .u8 kk, .int .i64 v] (by rfl) (by rfl) (by exact World.news_of_block (cs := #[.bool m, .int .i64 t, .int .u8 kk, .int .i64 v]) (t := 56) (fr := (0, 0)) (Lb.two W #[.bool m, .int .i64 t, .int .u8 kk, .int .i64 v] 56 _)) (by simp [Value.oneCell']) (by omega) (by unfold maxLen; omega) (by omega) (by simp; omega) (W.heap.size + 1 + 1) (by simp) ?_; intro g1 c1 w1 own1 grow1 at1 lt1; have X1 := (Lb.drew ((HX.out.alloc (.cells #[.bool m, .int .i64 t, .int .u8 kk, .int .i64 v] 57)).alloc (.cells #[.bool m, .int .i64 t, .int .u8 kk, .int .i64 v] 56))).grown grow1 (HFA0.out _ (Nat.le_refl _)); have O1 := ((OB.alloc (.cells #[.bool m, .int .i64 t, .int .u8 kk, .int .i64 v] 57)).alloc (.cells #[.bool m, .int .i64 t, .int .u8 kk, .int .i64 v] 56)).drew.kept grow1 HNE.out) | (refine step_append_lies _ (by rfl) _ _ _ (by rfl) w.heap.size 57 j0 _ 4 32 und27 hj0 hj1 hj2 hj3 rfl (by omega) (.slice gb k cb) k xb (by rfl) (by exact O1.alloc (.cells #[.bool m, .int .i64 t, .int .u8 kk, .int .i64 v] 57)) ⟨w1.heap.size, 0, none⟩ 1 1 [.bool m, .int .i64 t, .int .u8 kk, .int .i64 v] (by rfl) (by rfl) (by exact World.news_of_block (cs := #[.bool m, .int .i64 t, .int .u8 kk, .int .i64 v]) (t := 57) (fr := (0, 0)) (heap_alloc_new w1 _)) (by simp [Value.oneCell']) (by omega) (by unfold maxLen; omega) (by omega) (by have := grow1.size; simp at *; omega) (w1.heap.size + 1) (by simp) ?_; intro g2 c2 w2 own2 grow2 at2 lt2; have X2 := (X1.alloc (.cells #[.bool m, .int .i64 t, .int .u8 kk, .int .i64 v] 57)).grown grow2 (HFB0.out _ (Nat.le_refl _))) | (refine step_append_lies _ (by rfl) _ _ _ (by rfl) w.heap.size 57 j0 _ 4 32 und27 hj0 hj1 hj2 hj3 rfl (by omega) (.slice gb k cb) k xb (by rfl) (by exact O1) ⟨W.heap.size + 1, 0, none⟩ 1 1 [.bool m, .int .i64 t, .int .u8 kk, .int .i64 v] (by rfl) (by rfl) (by exact World.news_of_block (cs := #[.bool m, .int .i64 t, .int .u8 kk, .int .i64 v]) (t := 57) (fr := (0, 0)) (Lb.grown (Lb.drew (Lb.two W #[.bool m, .int .i64 t, .int .u8 kk, .int .i64 v] 57 (.cells #[.bool m, .int .i64 t, .int .u8 kk, .int .i64 v] 56))) grow1 (HFA.out _ (by omega)))) (by simp [Value.oneCell']) (by omega) (by unfold maxLen; omega) (by omega) (by have := grow1.size; simp at *; omega) (w1.heap.size) (by simp) ?_; intro g2 c2 w2 own2 grow2 at2 lt2; have X2 := (X1).grown grow2 (HFB0.out _ (Nat.le_refl _))) | (refine step_append_lies _ (by rfl) _ _ _ (by rfl) w.heap.size 57 j0 _ 4 32 und27 hj0 hj1 hj2 hj3 rfl (by omega) (.slice gb k cb) k xb (by rfl) (by exact O1) ⟨W.heap.size, 0, none⟩ 1 1 [.bool m, .int .i64 t, .int .u8 kk, .int .i64 v] (by rfl) (by rfl) (by exact World.news_of_block (cs := #[.bool m, .int .i64 t, .int .u8 kk, .int .i64 v]) (t := 57) (fr := (0, 0)) (Lb.grown (Lb.drew ((Lb.new W #[.bool m, .int .i64 t, .int .u8 kk, .int .i64 v] 57).alloc (.cells #[.bool m, .int .i64 t, .int .u8 kk, .int .i64 v] 56))) grow1 (HFA.out _ (by omega)))) (by simp [Value.oneCell']) (by omega) (by unfold maxLen; omega) (by omega) (by have := grow1.size; simp at *; omega) (w1.heap.size) (by simp) ?_; intro g2 c2 w2 own2 grow2 at2 lt2; have X2 := (X1).grown grow2 (HFB0.out _ (Nat.le_refl _))))
      all_goals
        go_wp2
        go_roundw
        case rel =>
          have n1 := apart HNE.out at1 (N := W.heap.size) (by omega) (fun q e => (OB.lt q e).2)
          have hs1 := grow1.size
          first
            | exact ⟨k + 1, by omega, by go_num, (((BW.alloc hBW _).drew.grown grow1 (by simp; omega) (fun q e => (OA.lt q e).1)).alloc (by simp at hs1; omega) _).grown grow2 (by simp at hs1 ⊢; omega) (fun q e => (OB.lt q e).1), Tw.next (own1.alloc _) own2 grow2 n1 at2 (by omega)⟩
            | exact ⟨k + 1, by omega, by go_num, (((BW.alloc hBW _).alloc (by simp; omega) _).drew.grown grow1 (by simp; omega) (fun q e => (OA.lt q e).1)).grown grow2 (by simp at hs1 ⊢; omega) (fun q e => (OB.lt q e).1), Tw.next own1 own2 grow2 n1 at2 lt1⟩
        case measure => simp [intOf]; omega
    · have hkk : ¬ (k : Int) < n := by omega
      go_wp2
      go_ret2
      exact ⟨⟨_, _, _, _, _, _, rfl⟩, hb⟩
end Go.Proofs.YthbiiccblcoogaaGreatDoor
