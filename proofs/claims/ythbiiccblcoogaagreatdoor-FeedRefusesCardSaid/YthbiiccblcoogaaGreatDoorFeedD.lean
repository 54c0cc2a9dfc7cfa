/- feed.show, feed.Show, at the items that the law fixes. -/
import Derived.Test.YthbiiccblcoogaaGreatDoorFeedC
set_option linter.unusedVariables false
set_option linter.unusedSimpArgs false
namespace Go.Proofs.YthbiiccblcoogaaGreatDoor
open Go.RowKit

theorem bcell {W w1 : World} (hb : Below W.heap.size W w1) : (∀ b o, b < W.heap.size → w1.cell? ⟨b, o, none⟩ = W.cell? ⟨b, o, none⟩) ∧ (∀ b o, b < W.heap.size → w1.frozen? ⟨b, o, none⟩ = W.frozen? ⟨b, o, none⟩) :=
  ⟨fun b o h => hb.cell (p := ⟨b, o, none⟩) h, fun b o h => hb.frozen (p := ⟨b, o, none⟩) h⟩

theorem fmt_5 (w : World) : Calls Tryz.prog 77 #[.int .i64 5, .int .i64 10] w fun e w' => e = .returned (.string ⟨#[53]⟩) ∧ w' = w := by
  have h := Tryz.strconv_FormatInt_10_small 5 (by decide) w
  rw [show Lib.decDigits 5 = [53] by kernel_rfl] at h
  exact h
theorem fmt_6 (w : World) : Calls Tryz.prog 77 #[.int .i64 6, .int .i64 10] w fun e w' => e = .returned (.string ⟨#[54]⟩) ∧ w' = w := by
  have h := Tryz.strconv_FormatInt_10_small 6 (by decide) w
  rw [show Lib.decDigits 6 = [54] by kernel_rfl] at h
  exact h
theorem fmt_m2 (w : World) (G : Glob w) : Calls Tryz.prog 77 #[.int .i64 (-2), .int .i64 10] w fun e w' => e = .returned (.string ⟨#[45, 50]⟩) ∧ Below w.heap.size w w' := by
  have h := Tryz.strconv_FormatInt_10 (-2) (by decide) (by decide) w G.tab
  rw [show Lib.itoa (-2) = [45, 50] by kernel_rfl] at h
  exact h.mono fun e w' ⟨a, b⟩ => ⟨a, grow_below b⟩

set_option maxRecDepth 100000 in
set_option maxHeartbeats 1600000 in
theorem show_M (w : World) : Calls Tryz.prog 38 #[.agg #[.bool true, .int .i64 6, .int .u8 0, .int .i64 0]] w fun e w' => e = .returned (.string ⟨#[77, 32, 54]⟩) ∧ Below w.heap.size w w' := by
  go_enter Tryz.func38, Tryz.ntmps38
  go_wp2_with (go_at_call 77; refine (fmt_6 _).mono ?_; rintro e w' ⟨rfl, rfl⟩)
  go_ret
  exact ⟨rfl, (Below.refl _ w).alloc (Nat.le_refl _) _⟩

theorem und116 : Tryz.prog.underlying 116 = some (.slice 5) := by kernel_rfl
theorem conv_one (b cap : Nat) (w : World) (h : w.cell? ⟨b, 0, none⟩ = some (.int .u8 65)) : (convert 116 9 (.slice (some ⟨b, 0, none⟩) 1 cap)).run Tryz.prog w = .ok (.string ⟨#[65]⟩) w :=
  run_convert_bytes_back w 116 9 5 ⟨b, 0, none⟩ cap [65] und116 Tryz.underlying5 Tryz.underlying9 (fun i hi => by
    have : i = 0 := by simpa using hi
    subst this
    exact h)
attribute [local go_sem] conv_one

set_option maxRecDepth 100000 in
set_option maxHeartbeats 3200000 in
theorem show_E (w : World) (G : Glob w) : Calls Tryz.prog 38 #[.agg #[.bool false, .int .i64 5, .int .u8 65, .int .i64 (-2)]] w fun e w' => e = .returned (.string ⟨#[69, 32, 53, 32, 65, 32, 45, 50]⟩) ∧ Below w.heap.size w w' := by
  have B1 := (Below.refl w.heap.size w).alloc (Nat.le_refl _) (.cells #[.bool false, .int .i64 5, .int .u8 65, .int .i64 (-2)] 56)
  go_enter Tryz.func38, Tryz.ntmps38
  go_wp2_with (go_at_call 77; refine (fmt_5 _).mono ?_; rintro e w' ⟨rfl, rfl⟩)
  have X := Lb.new w #[.bool false, .int .i64 5, .int .u8 65, .int .i64 (-2)] 56
  generalize hW : w.alloc (.cells #[.bool false, .int .i64 5, .int .u8 65, .int .i64 (-2)] 56) = W at *
  clear hW
  have zX := X.lt
  have x2 := X.cell 2 _ rfl
  have x3 := X.cell 3 _ rfl
  have G1 := G.below B1
  go_region_with
    ((go_at_call 77; refine (fmt_m2 _ ?_).mono ?_; (first | exact G1.below ((Below.refl _ W).drew) | exact G1.below (((Below.refl _ W).alloc (Nat.le_refl _) _).drew)); rintro e w2 ⟨rfl, hb2⟩; (first | (have BW : Below W.heap.size W w2 := ((Below.refl W.heap.size W).drew).trans hb2) | (have BW : Below W.heap.size W w2 := (((Below.refl W.heap.size W).alloc (Nat.le_refl _) _).drew).trans (hb2.mono (by simp)))); have XB := lb_below X BW zX; have y2 := XB.cell 2 _ rfl; (first | (have c2 := ((lb_below (Lb.drew (Lb.new W #[.int .u8 65] 5)) hb2 (by simp)).cell 0 _ rfl)) | skip)))
  all_goals
    go_wp2
    go_ret
    exact ⟨rfl, by first | exact B1.trans (BW.mono (by omega)) | exact (B1.trans (BW.mono (by omega))).alloc (by have := BW.size; omega) _⟩
end Go.Proofs.YthbiiccblcoogaaGreatDoor
