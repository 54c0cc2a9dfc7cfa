/- The law's configuration: config, with coins. -/
import Derived.Test.YthbiiccblcoogaaGreatDoorLawB
import Derived.Deep.DrawnRows
import Derived.IntWalk
set_option linter.unusedVariables false
set_option linter.unusedSimpArgs false
namespace Go.Proofs.YthbiiccblcoogaaGreatDoor
open Go.RowKit
attribute [local go_sem ↓] Go.wp_at_zero Go.wp_at_succ

theorem news_ok {zs : List Int} {K : Nat} (u : Value) (hu : u ∈ (zs.take K).map (Value.int .i64)) : u.oneCell' = true := by
  simp only [List.mem_map] at hu
  obtain ⟨z, _, rfl⟩ := hu
  simp [Value.oneCell']
theorem news_cells {w W : World} {zs : List Int} {ad : Addr} {K : Nat} (hb : Below w.heap.size w W) (hcell : ∀ j z, zs[j]? = some z → w.cell? (ad.add j) = some (.int .i64 z)) (j : Nat) (u : Value)
    (hu : ((zs.take K).map (Value.int .i64))[j]? = some u) : W.cell? (ad.add j) = some u := by
  simp only [List.getElem?_map, Option.map_eq_some_iff] at hu
  obtain ⟨z, hz, rfl⟩ := hu
  have hz' : zs[j]? = some z := by
    rw [List.getElem?_take] at hz
    split at hz
    · exact hz
    · cases hz
  have h := hcell j z hz'
  rw [hb.cell (World.block_lt_of_cell? w _ h)]
  exact h

set_option maxRecDepth 100000 in
set_option maxHeartbeats 6400000 in
theorem config_big (M B C F Z Ba Ra : Int) (ad : Addr) (n cp : Nat) (zs : List Int) (w : World) (hn1 : 1 ≤ n) (hz : zs.length = n) (hncp : n ≤ cp) (hcp : cp * 8 ≤ 140737488355328) (hcell : ∀ j z, zs[j]? = some z → w.cell? (ad.add j) = some (.int .i64 z))
    (hM : I64 M) (hB : I64 B) (hC : I64 C) (hF : I64 F) (h50 : (50 : Int) < n) :
    Calls Tryz.prog 8 #[.agg #[.int .i64 M, .int .i64 B, .int .i64 C, .int .i64 F, .int .i64 Z, .int .i64 Ba, .int .i64 Ra, .slice (some ad) n cp]] w (CfgR w) := by
  obtain ⟨i0, hi0, hi1, hi2, hi3⟩ := info_parts info3
  have A1 := Lib.hid (at_any M 9000)
  have l1 := nr_lo M 9000 (by omega)
  have u1 := nr_hi M 9000 (by omega)
  have A2 := Lib.hid (at_any B 4096)
  have l2 := nr_lo B 4096 (by omega)
  have u2 := nr_hi B 4096 (by omega)
  have A3 := Lib.hid (at_any C 16)
  have l3 := nr_lo C 16 (by omega)
  have u3 := nr_hi C 16 (by omega)
  have A4 := Lib.hid (at_any F 1048576)
  have l4 := nr_lo F 1048576 (by omega)
  have u4 := nr_hi F 1048576 (by omega)
  generalize nr M 9000 = m1 at *
  generalize nr B 4096 = m2 at *
  generalize nr C 16 = m3 at *
  generalize nr F 1048576 = m4 at *
  have w1 : IntKind.i64.wrap (4096 + m1) = 4096 + m1 := by rw [IntWalk.i64_in _ (by omega)]
  have w2 : IntKind.i64.wrap (1 + m2) = 1 + m2 := by rw [IntWalk.i64_in _ (by omega)]
  have w3 : IntKind.i64.wrap (1 + m3) = 1 + m3 := by rw [IntWalk.i64_in _ (by omega)]
  have w4 : IntKind.i64.wrap (1 + m4) = 1 + m4 := by rw [IntWalk.i64_in _ (by omega)]
  have X := Lb.new w #[.int .i64 M, .int .i64 B, .int .i64 C, .int .i64 F, .int .i64 Z, .int .i64 Ba, .int .i64 Ra, .slice (some ad) n cp] 25
  have hl : ((zs.take 50).map (Value.int .i64)).length = 50 * 1 := by simp; omega
  have HL := Lib.hid hl
  have HZ := Lib.hid hz
  have HCELL := Lib.hid hcell
  clear hl hz hcell
  have hk1 : (50 : Int) ≤ cp := by omega
  go_enter Tryz.func8, Tryz.ntmps8
  go_wp2_with fail
  generalize hW : (w.alloc (.cells #[.int .i64 M, .int .i64 B, .int .i64 C, .int .i64 F, .int .i64 Z, .int .i64 Ba, .int .i64 Ra, .slice (some ad) n cp] 25)).alloc (.cells #[.int .i64 0, .int .i64 0, .int .i64 0, .int .i64 0, .int .i64 0, .int .i64 0, .int .i64 0, .int .i64 0, .slice none 0 0] 41) = W
  have X2 : Lb W w.heap.size #[.int .i64 M, .int .i64 B, .int .i64 C, .int .i64 F, .int .i64 Z, .int .i64 Ba, .int .i64 Ra, .slice (some ad) n cp] 25 := by rw [← hW]; exact X.alloc _
  have Y2 : Lb W (w.heap.size + 1) #[.int .i64 0, .int .i64 0, .int .i64 0, .int .i64 0, .int .i64 0, .int .i64 0, .int .i64 0, .int .i64 0, .slice none 0 0] 41 := by
    rw [← hW]
    have := Lb.new (w.alloc (.cells #[.int .i64 M, .int .i64 B, .int .i64 C, .int .i64 F, .int .i64 Z, .int .i64 Ba, .int .i64 Ra, .slice (some ad) n cp] 25)) #[.int .i64 0, .int .i64 0, .int .i64 0, .int .i64 0, .int .i64 0, .int .i64 0, .int .i64 0, .int .i64 0, .slice none 0 0] 41
    simpa only [sz_alloc] using this
  have BW : Below w.heap.size w W := by rw [← hW]; exact ((Below.refl _ w).alloc (Nat.le_refl _) _).alloc (by simp) _
  clear hW X
  have zX := X2.lt
  have zY := Y2.lt
  have HX := Lib.hid X2
  have HY := Lib.hid Y2
  have HB := Lib.hid BW
  have HK : ∀ w1, W.drew.grownBy w1 (Value.slice none 0 0).ownBlock → (w1.cell? ⟨w.heap.size, 0, none⟩ = some (.int .i64 M) ∧ w1.cell? ⟨w.heap.size, 1, none⟩ = some (.int .i64 B) ∧ w1.cell? ⟨w.heap.size, 2, none⟩ = some (.int .i64 C) ∧ w1.cell? ⟨w.heap.size, 3, none⟩ = some (.int .i64 F) ∧ w1.cell? ⟨w.heap.size, 4, none⟩ = some (.int .i64 Z) ∧ w1.cell? ⟨w.heap.size, 5, none⟩ = some (.int .i64 Ba) ∧ w1.cell? ⟨w.heap.size, 6, none⟩ = some (.int .i64 Ra) ∧ w1.cell? ⟨w.heap.size, 7, none⟩ = some (.slice (some ad) n cp)) := fun w1 hg => by
    have Q := (Lb.drew HX.out).grown hg (by simp [Value.ownBlock])
    exact ⟨Q.cell 0 _ rfl, Q.cell 1 _ rfl, Q.cell 2 _ rfl, Q.cell 3 _ rfl, Q.cell 4 _ rfl, Q.cell 5 _ rfl, Q.cell 6 _ rfl, Q.cell 7 _ rfl⟩
  have HKK := Lib.hid HK
  clear HK
  have x0 := X2.cell 0 _ rfl
  have x1 := X2.cell 1 _ rfl
  have x2 := X2.cell 2 _ rfl
  have x3 := X2.cell 3 _ rfl
  have x4 := X2.cell 4 _ rfl
  have x5 := X2.cell 5 _ rfl
  have x6 := X2.cell 6 _ rfl
  have x7 := X2.cell 7 _ rfl
  clear X2 Y2 BW
  go_cut [] (fun wr => (∃ gg cap, Lb wr (w.heap.size + 1) #[.int .i64 1073741824, .int .i64 (4096 + m1), .int .i64 (1 + m2), .int .i64 (1 + m3), .int .i64 (1 + m4), .int .i64 Z, .int .i64 Ba, .int .i64 Ra, .slice (some ⟨gg, 0, none⟩) (0 + 50) cap] 41) ∧ Below w.heap.size w wr)
  case first =>
    go_region_held3 (fun w' => w'.cell? ⟨w.heap.size, 0, none⟩ = some (.int .i64 M) ∧ w'.cell? ⟨w.heap.size, 1, none⟩ = some (.int .i64 B) ∧ w'.cell? ⟨w.heap.size, 2, none⟩ = some (.int .i64 C) ∧ w'.cell? ⟨w.heap.size, 3, none⟩ = some (.int .i64 F) ∧ w'.cell? ⟨w.heap.size, 4, none⟩ = some (.int .i64 Z) ∧ w'.cell? ⟨w.heap.size, 5, none⟩ = some (.int .i64 Ba) ∧ w'.cell? ⟨w.heap.size, 6, none⟩ = some (.int .i64 Ra) ∧ w'.cell? ⟨w.heap.size, 7, none⟩ = some (.slice (some ad) n cp)) (first | go_keep | exact HKK.out _ hgrow)
      (first | (go_at_call 20; (with_reducible refine (A1.out _ hM.lo hM.hi (by omega) (by omega)).mono ?_); rintro e w' ⟨rfl, rfl⟩) | (go_at_call 20; (with_reducible refine (A2.out _ hB.lo hB.hi (by omega) (by omega)).mono ?_); rintro e w' ⟨rfl, rfl⟩) | (go_at_call 20; (with_reducible refine (A3.out _ hC.lo hC.hi (by omega) (by omega)).mono ?_); rintro e w' ⟨rfl, rfl⟩) | (go_at_call 20; (with_reducible refine (A4.out _ hF.lo hF.hi (by omega) (by omega)).mono ?_); rintro e w' ⟨rfl, rfl⟩) | (refine step_append_lies _ (by rfl) _ _ _ (by rfl) w.heap.size 3 i0 _ 1 8 und23 hi0 hi1 hi2 hi3 rfl (by omega) (.slice none 0 0) 0 [] (by rfl) (World.ownsRow_nil _ _ _ _) ad 50 cp ((zs.take 50).map (Value.int .i64)) (by rfl) HL.out (news_cells (W := W.drew) HB.out.drew HCELL.out) (fun u hu => news_ok u hu) (by omega) (by unfold maxLen; omega) (by omega) (by simp; omega) W.heap.size (by simp) ?_; intro gg cap w1 hown hgrow hat hlt; have YG := (Lb.drew HY.out).grown hgrow (by simp [Value.ownBlock]); have yf := fun i => YG.frozen i; have y0 := YG.cell 0 _ rfl; have y1 := YG.cell 1 _ rfl; have y2 := YG.cell 2 _ rfl; have y3 := YG.cell 3 _ rfl; have y4 := YG.cell 4 _ rfl; have y5 := YG.cell 5 _ rfl; have y6 := YG.cell 6 _ rfl; have y7 := YG.cell 7 _ rfl; have y8 := YG.cell 8 _ rfl))
    all_goals
      go_wp2
      go_meet
      have Q := ((((((((YG.set 0 (.int .i64 1073741824)).set 1 (.int .i64 (4096 + m1))).set 2 (.int .i64 (1 + m2))).set 3 (.int .i64 (1 + m3))).set 4 (.int .i64 (1 + m4))).set 5 (.int .i64 Z)).set 6 (.int .i64 Ba)).set 7 (.int .i64 Ra)).set 8 (.slice (some ⟨gg, 0, none⟩) (0 + 50) cap)
      have BG : Below w.heap.size w w1 := HB.out.drew.grown hgrow (by simp; omega) (by simp [Value.ownBlock])
      exact ⟨⟨_, _, by simpa using Q⟩, by
        simpa using ((((((((BG.setCell (p := ⟨w.heap.size + 1, 0, none⟩) (Nat.le_succ _) (.int .i64 1073741824)).setCell (p := ⟨w.heap.size + 1, 1, none⟩) (Nat.le_succ _) (.int .i64 (4096 + m1))).setCell (p := ⟨w.heap.size + 1, 2, none⟩) (Nat.le_succ _) (.int .i64 (1 + m2))).setCell (p := ⟨w.heap.size + 1, 3, none⟩) (Nat.le_succ _) (.int .i64 (1 + m3))).setCell (p := ⟨w.heap.size + 1, 4, none⟩) (Nat.le_succ _) (.int .i64 (1 + m4))).setCell (p := ⟨w.heap.size + 1, 5, none⟩) (Nat.le_succ _) (.int .i64 Z)).setCell (p := ⟨w.heap.size + 1, 6, none⟩) (Nat.le_succ _) (.int .i64 Ba)).setCell (p := ⟨w.heap.size + 1, 7, none⟩) (Nat.le_succ _) (.int .i64 Ra)).setCell (p := ⟨w.heap.size + 1, 8, none⟩) (Nat.le_succ _) (.slice (some ⟨gg, 0, none⟩) (0 + 50) cap)⟩
  case rest =>
    obtain ⟨⟨gg, cap, YY⟩, BB⟩ := hcut
    have q0 := YY.cell 0 _ rfl
    have q1 := YY.cell 1 _ rfl
    have q2 := YY.cell 2 _ rfl
    have q3 := YY.cell 3 _ rfl
    have q4 := YY.cell 4 _ rfl
    have q5 := YY.cell 5 _ rfl
    have q6 := YY.cell 6 _ rfl
    have q7 := YY.cell 7 _ rfl
    have q8 := YY.cell 8 _ rfl
    clear x0 x1 x2 x3 x4 x5 x6 x7
    go_wp2
    refine bodyPost_ret (v := .agg #[.int .i64 1073741824, .int .i64 (4096 + m1), .int .i64 (1 + m2), .int .i64 (1 + m3), .int .i64 (1 + m4), .int .i64 Z, .int .i64 Ba, .int .i64 Ra, .slice (some ⟨gg, 0, none⟩) (0 + 50) cap]) (by simp only [results, Tryz.results8]; simp [go_sem, q0, q1, q2, q3, q4, q5, q6, q7, q8]) rfl ?_
    exact ⟨⟨_, _, _, _, _, _, _, _, _, _, rfl⟩, BB⟩
end Go.Proofs.YthbiiccblcoogaaGreatDoor
