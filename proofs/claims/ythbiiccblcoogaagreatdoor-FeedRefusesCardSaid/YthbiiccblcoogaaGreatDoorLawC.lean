/- The law's configuration: config, without coins. -/
import Derived.Test.YthbiiccblcoogaaGreatDoorLawB
import Derived.Deep.DrawnRows
import Derived.IntWalk
set_option linter.unusedVariables false
set_option linter.unusedSimpArgs false
namespace Go.Proofs.YthbiiccblcoogaaGreatDoor
open Go.RowKit
attribute [local go_sem ↓] Go.wp_at_zero Go.wp_at_succ


set_option maxRecDepth 100000 in
set_option maxHeartbeats 6400000 in
theorem config_none (M B C F Z Ba Ra : Int) (g : Option Addr) (cp : Nat) (w : World)
    (hM : I64 M) (hB : I64 B) (hC : I64 C) (hF : I64 F) :
    Calls Tryz.prog 8 #[.agg #[.int .i64 M, .int .i64 B, .int .i64 C, .int .i64 F, .int .i64 Z, .int .i64 Ba, .int .i64 Ra, .slice g 0 cp]] w (CfgR w) := by
  have A1 := Lib.hid (at_any M 9000)
  have l1 := nr_lo M 9000 (by omega)
  have u1 := nr_hi M 9000 (by omega)
  have A2 := Lib.hid (at_any B 4096)
  have l2 := nr_lo B 4096 (by omega)
  have u2 := nr_hi B 4096 (by omega)
  have A3 := Lib.hid (at_any C 16)
  have l3 := nr_lo C 16 (by omega)
  have u3 := nr_hi C 16 (by omega)
  have A4 := Lib.hid (at_any F 1048576)
  have l4 := nr_lo F 1048576 (by omega)
  have u4 := nr_hi F 1048576 (by omega)
  generalize nr M 9000 = m1 at *
  generalize nr B 4096 = m2 at *
  generalize nr C 16 = m3 at *
  generalize nr F 1048576 = m4 at *
  have w1 : IntKind.i64.wrap (4096 + m1) = 4096 + m1 := by rw [IntWalk.i64_in _ (by omega)]
  have w2 : IntKind.i64.wrap (1 + m2) = 1 + m2 := by rw [IntWalk.i64_in _ (by omega)]
  have w3 : IntKind.i64.wrap (1 + m3) = 1 + m3 := by rw [IntWalk.i64_in _ (by omega)]
  have w4 : IntKind.i64.wrap (1 + m4) = 1 + m4 := by rw [IntWalk.i64_in _ (by omega)]
  have X := Lb.new w #[.int .i64 M, .int .i64 B, .int .i64 C, .int .i64 F, .int .i64 Z, .int .i64 Ba, .int .i64 Ra, .slice g 0 cp] 25
  go_enter Tryz.func8, Tryz.ntmps8
  go_wp2_with fail
  generalize hW : (w.alloc (.cells #[.int .i64 M, .int .i64 B, .int .i64 C, .int .i64 F, .int .i64 Z, .int .i64 Ba, .int .i64 Ra, .slice g 0 cp] 25)).alloc (.cells #[.int .i64 0, .int .i64 0, .int .i64 0, .int .i64 0, .int .i64 0, .int .i64 0, .int .i64 0, .int .i64 0, .slice none 0 0] 41) = W
  have X2 : Lb W w.heap.size #[.int .i64 M, .int .i64 B, .int .i64 C, .int .i64 F, .int .i64 Z, .int .i64 Ba, .int .i64 Ra, .slice g 0 cp] 25 := by rw [← hW]; exact X.alloc _
  have Y2 : Lb W (w.heap.size + 1) #[.int .i64 0, .int .i64 0, .int .i64 0, .int .i64 0, .int .i64 0, .int .i64 0, .int .i64 0, .int .i64 0, .slice none 0 0] 41 := by
    rw [← hW]
    have := Lb.new (w.alloc (.cells #[.int .i64 M, .int .i64 B, .int .i64 C, .int .i64 F, .int .i64 Z, .int .i64 Ba, .int .i64 Ra, .slice g 0 cp] 25)) #[.int .i64 0, .int .i64 0, .int .i64 0, .int .i64 0, .int .i64 0, .int .i64 0, .int .i64 0, .int .i64 0, .slice none 0 0] 41
    simpa only [sz_alloc] using this
  have BW : Below w.heap.size w W := by rw [← hW]; exact ((Below.refl _ w).alloc (Nat.le_refl _) _).alloc (by simp) _
  clear hW X
  have zX := X2.lt
  have zY := Y2.lt
  have HX := Lib.hid X2
  have HY := Lib.hid Y2
  have HB := Lib.hid BW
  have x0 := X2.cell 0 _ rfl
  have x1 := X2.cell 1 _ rfl
  have x2 := X2.cell 2 _ rfl
  have x3 := X2.cell 3 _ rfl
  have x4 := X2.cell 4 _ rfl
  have x5 := X2.cell 5 _ rfl
  have x6 := X2.cell 6 _ rfl
  have x7 := X2.cell 7 _ rfl
  clear X2 Y2 BW
  go_cut [] (fun wr => (Lb wr (w.heap.size + 1) #[.int .i64 1073741824, .int .i64 (4096 + m1), .int .i64 (1 + m2), .int .i64 (1 + m3), .int .i64 (1 + m4), .int .i64 Z, .int .i64 Ba, .int .i64 Ra, .slice none 0 0] 41) ∧ Below w.heap.size w wr)
  case first =>
    go_region_held3 (fun w' => w'.cell? ⟨w.heap.size, 0, none⟩ = some (.int .i64 M) ∧ w'.cell? ⟨w.heap.size, 1, none⟩ = some (.int .i64 B) ∧ w'.cell? ⟨w.heap.size, 2, none⟩ = some (.int .i64 C) ∧ w'.cell? ⟨w.heap.size, 3, none⟩ = some (.int .i64 F) ∧ w'.cell? ⟨w.heap.size, 4, none⟩ = some (.int .i64 Z) ∧ w'.cell? ⟨w.heap.size, 5, none⟩ = some (.int .i64 Ba) ∧ w'.cell? ⟨w.heap.size, 6, none⟩ = some (.int .i64 Ra) ∧ w'.cell? ⟨w.heap.size, 7, none⟩ = some (.slice g 0 cp)) (go_keep)
      (first | (go_at_call 20; (with_reducible refine (A1.out _ hM.lo hM.hi (by omega) (by omega)).mono ?_); rintro e w' ⟨rfl, rfl⟩) | (go_at_call 20; (with_reducible refine (A2.out _ hB.lo hB.hi (by omega) (by omega)).mono ?_); rintro e w' ⟨rfl, rfl⟩) | (go_at_call 20; (with_reducible refine (A3.out _ hC.lo hC.hi (by omega) (by omega)).mono ?_); rintro e w' ⟨rfl, rfl⟩) | (go_at_call 20; (with_reducible refine (A4.out _ hF.lo hF.hi (by omega) (by omega)).mono ?_); rintro e w' ⟨rfl, rfl⟩) | (refine step_append_nil (by rfl) _ _ (by rfl) g cp (by rfl) (by rfl) ?_; have YG := HY.out; have yf := fun i => YG.frozen i; have y0 := YG.cell 0 _ rfl; have y1 := YG.cell 1 _ rfl; have y2 := YG.cell 2 _ rfl; have y3 := YG.cell 3 _ rfl; have y4 := YG.cell 4 _ rfl; have y5 := YG.cell 5 _ rfl; have y6 := YG.cell 6 _ rfl; have y7 := YG.cell 7 _ rfl; have y8 := YG.cell 8 _ rfl))
    all_goals
      go_wp2
      go_meet
      have Q := Lb.drew <| ((((((((YG.set 0 (.int .i64 1073741824)).set 1 (.int .i64 (4096 + m1))).set 2 (.int .i64 (1 + m2))).set 3 (.int .i64 (1 + m3))).set 4 (.int .i64 (1 + m4))).set 5 (.int .i64 Z)).set 6 (.int .i64 Ba)).set 7 (.int .i64 Ra)).set 8 (.slice none 0 0)
      have BG : Below w.heap.size w W := HB.out
      exact ⟨by simpa using Q, by
        exact (((((((((BG.setCell (p := ⟨w.heap.size + 1, 0, none⟩) (Nat.le_succ _) (.int .i64 1073741824)).setCell (p := ⟨w.heap.size + 1, 1, none⟩) (Nat.le_succ _) (.int .i64 (4096 + m1))).setCell (p := ⟨w.heap.size + 1, 2, none⟩) (Nat.le_succ _) (.int .i64 (1 + m2))).setCell (p := ⟨w.heap.size + 1, 3, none⟩) (Nat.le_succ _) (.int .i64 (1 + m3))).setCell (p := ⟨w.heap.size + 1, 4, none⟩) (Nat.le_succ _) (.int .i64 (1 + m4))).setCell (p := ⟨w.heap.size + 1, 5, none⟩) (Nat.le_succ _) (.int .i64 Z)).setCell (p := ⟨w.heap.size + 1, 6, none⟩) (Nat.le_succ _) (.int .i64 Ba)).setCell (p := ⟨w.heap.size + 1, 7, none⟩) (Nat.le_succ _) (.int .i64 Ra)).setCell (p := ⟨w.heap.size + 1, 8, none⟩) (Nat.le_succ _) (.slice none 0 0)).drew⟩
  case rest =>
    obtain ⟨YY, BB⟩ := hcut
    have q0 := YY.cell 0 _ rfl
    have q1 := YY.cell 1 _ rfl
    have q2 := YY.cell 2 _ rfl
    have q3 := YY.cell 3 _ rfl
    have q4 := YY.cell 4 _ rfl
    have q5 := YY.cell 5 _ rfl
    have q6 := YY.cell 6 _ rfl
    have q7 := YY.cell 7 _ rfl
    have q8 := YY.cell 8 _ rfl
    clear x0 x1 x2 x3 x4 x5 x6 x7
    go_wp2
    refine bodyPost_ret (v := .agg #[.int .i64 1073741824, .int .i64 (4096 + m1), .int .i64 (1 + m2), .int .i64 (1 + m3), .int .i64 (1 + m4), .int .i64 Z, .int .i64 Ba, .int .i64 Ra, .slice none 0 0]) (by simp only [results, Tryz.results8]; simp [go_sem, q0, q1, q2, q3, q4, q5, q6, q7, q8]) rfl ?_
    exact ⟨⟨_, _, _, _, _, _, _, _, _, _, rfl⟩, BB⟩
end Go.Proofs.YthbiiccblcoogaaGreatDoor
