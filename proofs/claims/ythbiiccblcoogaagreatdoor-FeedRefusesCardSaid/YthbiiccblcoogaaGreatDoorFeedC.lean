/- feed.Parse, at the text that the law fixes. -/
import Derived.Test.YthbiiccblcoogaaGreatDoorFeedB
import Derived.Test.YthbiiccblcoogaaGreatDoorLawE
set_option linter.unusedVariables false
set_option linter.unusedSimpArgs false
namespace Go.Proofs.YthbiiccblcoogaaGreatDoor
open Go.RowKit

theorem cut_one (w : World) (G : Glob w) : Calls Tryz.prog 35 #[.string ⟨#[69, 32, 53, 32, 65, 32, 45, 50, 10, 77, 32, 54, 10]⟩, .string ⟨#[10]⟩] w fun e w' =>
    e = .returned (.tuple #[.string ⟨#[69, 32, 53, 32, 65, 32, 45, 50]⟩, .string ⟨#[77, 32, 54, 10]⟩, .bool true]) ∧ ∃ n, w' = w.drewN n := by
  obtain ⟨m, hm⟩ := G.m
  have h := Tryz.strings_Cut ⟨#[69, 32, 53, 32, 65, 32, 45, 50, 10, 77, 32, 54, 10]⟩ ⟨#[10]⟩ m w (by decide) hm
  rw [show Lib.cut (⟨#[69, 32, 53, 32, 65, 32, 45, 50, 10, 77, 32, 54, 10]⟩ : ByteArray).data.toList (⟨#[10]⟩ : ByteArray).data.toList = ([69, 32, 53, 32, 65, 32, 45, 50], [77, 32, 54, 10], true) by kernel_rfl] at h
  exact h
theorem cut_two (w : World) (G : Glob w) : Calls Tryz.prog 35 #[.string ⟨#[77, 32, 54, 10]⟩, .string ⟨#[10]⟩] w fun e w' =>
    e = .returned (.tuple #[.string ⟨#[77, 32, 54]⟩, .string ⟨#[]⟩, .bool true]) ∧ ∃ n, w' = w.drewN n := by
  obtain ⟨m, hm⟩ := G.m
  have h := Tryz.strings_Cut ⟨#[77, 32, 54, 10]⟩ ⟨#[10]⟩ m w (by decide) hm
  rw [show Lib.cut (⟨#[77, 32, 54, 10]⟩ : ByteArray).data.toList (⟨#[10]⟩ : ByteArray).data.toList = ([77, 32, 54], [], true) by kernel_rfl] at h
  exact h

def cE : List Value := [.bool false, .int .i64 5, .int .u8 65, .int .i64 (-2)]
def cM : List Value := [.bool true, .int .i64 6, .int .u8 0, .int .i64 0]

/-- Where the reading of the text stands. -/
def Pl (w : World) (k : Nat) (v0 v5 : Value) (wr : World) : Prop :=
  Below w.heap.size w wr ∧ ((k = 2 ∧ v0 = .string ⟨#[69, 32, 53, 32, 65, 32, 45, 50, 10, 77, 32, 54, 10]⟩ ∧ v5 = .slice none 0 0) ∨
    (k = 1 ∧ v0 = .string ⟨#[77, 32, 54, 10]⟩ ∧ wr.ownsRow w.heap.size 56 4 v5 1 cE) ∨ (k = 0 ∧ v0 = .string ⟨#[]⟩ ∧ wr.ownsRow w.heap.size 56 4 v5 2 (cE ++ cM)))

/-- What the reading of the text gives. -/
def PrsR (w : World) (e : Ending) (w' : World) : Prop :=
  (∃ g c, e = .returned (.tuple #[.slice g 2 c, .int .i64 0, .int .i64 0]) ∧ w'.ownsRow w.heap.size 56 4 (.slice g 2 c) 2 (cE ++ cM)) ∧ Below w.heap.size w w'

set_option maxRecDepth 100000 in
set_option maxHeartbeats 3200000 in
theorem fparse (w : World) (G : Glob w) : Calls Tryz.prog 21 #[.string ⟨#[69, 32, 53, 32, 65, 32, 45, 50, 10, 77, 32, 54, 10]⟩] w (PrsR w) := by
  obtain ⟨i0, hi0, hi1, hi2, hi3⟩ := info_parts info56
  go_enter Tryz.func21, Tryz.ntmps21
  go_wp2_with fail
  go_loopg [0, 5] 2 (fun k v0 v5 wr => Pl w k v0 v5 wr)
  case atStart => exact ⟨Below.refl _ _, .inl ⟨rfl, rfl, rfl⟩⟩
  case round =>
    obtain ⟨hb, hc⟩ := hrel
    have Gr := G.below hb
    have hbz := hb.size
    rcases hc with ⟨rfl, rfl, rfl⟩ | ⟨rfl, rfl, own⟩ | ⟨rfl, rfl, own⟩
    · go_wp2_with fail
      refine (cut_one _ Gr).mono ?_
      rintro e w1 ⟨rfl, n1, rfl⟩
      have B1 := hb.trans (below_drewN (Below.refl _ wr) n1)
      go_wp2_with fail
      refine (item_E _ (by exact G.below B1)).mono ?_
      rintro e w2 ⟨rfl, b2⟩
      have B2 := B1.trans (b2.mono hbz)
      have hz2 := B2.size
      go_wp2_with (at_builtin; refine wpList_append_lies _ (by rfl) _ _ _ (by rfl) w.heap.size 56 i0 _ 4 32 und26 hi0 hi1 hi2 hi3 rfl (by omega) (.slice none 0 0) 0 [] (by rfl) (World.ownsRow_nil _ _ _ _) ⟨w2.heap.size + 1, 0, none⟩ 1 1 cE (by rfl) (by rfl) (World.news_of_block (cs := #[.bool false, .int .i64 5, .int .u8 65, .int .i64 (-2)]) (t := 56) (fr := (0, 0)) (by simpa using heap_alloc_new (w2.alloc (.cells #[.bool false, .int .i64 5, .int .u8 65, .int .i64 (-2)] 56)) _)) (by simp [Value.oneCell', cE]) (by omega) (by decide) (by omega) (by simp; omega) (w2.heap.size + 1 + 1) (by simp) ?_; intro gg cap w4 hown3 hgrow hat hlt)
      go_roundg 1
      case measure => omega
      case rel => exact ⟨((B2.alloc hz2 _).alloc (by simp; omega) _).grown hgrow (by simp; omega) (by simp [Value.ownBlock]), .inr (.inl ⟨rfl, rfl, hown3⟩)⟩
    · obtain ⟨g, c, rfl⟩ := own_slice own
      go_wp2_with fail
      refine (cut_two _ Gr).mono ?_
      rintro e w1 ⟨rfl, n1, rfl⟩
      have B0 := below_drewN (Below.refl wr.heap.size wr) n1
      have B1 := hb.trans (B0.mono hbz)
      go_wp2_with fail
      refine (item_M _ (by exact G.below B1)).mono ?_
      rintro e w2 ⟨rfl, b2⟩
      have B2 := B1.trans (b2.mono hbz)
      have hz2 := B2.size
      have own2 := ((own_below own (B0.trans b2) (Nat.le_refl _)).alloc (.cells #[.bool true, .int .i64 6, .int .u8 0, .int .i64 0] 56)).alloc (.cells #[.bool true, .int .i64 6, .int .u8 0, .int .i64 0] 56)
      go_wp2_with (at_builtin; refine wpList_append_lies _ (by rfl) _ _ _ (by rfl) w.heap.size 56 i0 _ 4 32 und26 hi0 hi1 hi2 hi3 rfl (by omega) (.slice g 1 c) 1 cE (by rfl) (by exact own2) ⟨w2.heap.size + 1, 0, none⟩ 1 1 cM (by rfl) (by rfl) (World.news_of_block (cs := #[.bool true, .int .i64 6, .int .u8 0, .int .i64 0]) (t := 56) (fr := (0, 0)) (by simpa using heap_alloc_new (w2.alloc (.cells #[.bool true, .int .i64 6, .int .u8 0, .int .i64 0] 56)) _)) (by simp [Value.oneCell', cM]) (by omega) (by decide) (by omega) (by simp; omega) (w2.heap.size + 1 + 1) (by simp) ?_; intro gg cap w4 hown3 hgrow hat hlt)
      go_roundg 0
      case measure => omega
      case rel => exact ⟨((B2.alloc hz2 _).alloc (by simp; omega) _).grown hgrow (by simp; omega) (fun k e => (own.lt k e).1), .inr (.inr ⟨rfl, rfl, hown3⟩)⟩
    · obtain ⟨g, c, rfl⟩ := own_slice own
      go_wp2
      go_ret3
      exact ⟨⟨g, c, rfl, own⟩, hb⟩
end Go.Proofs.YthbiiccblcoogaaGreatDoor
