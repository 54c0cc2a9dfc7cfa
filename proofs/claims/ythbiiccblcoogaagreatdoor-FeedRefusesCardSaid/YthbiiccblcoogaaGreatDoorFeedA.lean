/- feed.number, at a number's own numeral. -/
import Derived.Test.YthbiiccblcoogaaGreatDoorBase
import Derived.Test.YthbiiccblcoogaaGreatDoorShelf
import Derived.WalkSmall
set_option linter.unusedVariables false
set_option linter.unusedSimpArgs false
namespace Go.Proofs.YthbiiccblcoogaaGreatDoor
open Go.RowKit

/-- What the library reads of its own variables. -/
structure Glob (w : World) : Prop where
  m : ∃ m, w.cell? ⟨0, 0, none⟩ = some (.int .i64 m)
  tab : Lib.TabIs Tryz.prog w "internal/strconv.uint64pow10" .u64 Lib.pow10Tab
  sz : 8 ≤ w.heap.size
theorem Glob.below {w w' : World} (h : Glob w) (hb : Below w.heap.size w w') : Glob w' := by
  obtain ⟨m, hm⟩ := h.m
  have hz := h.sz
  exact ⟨⟨m, by rw [hb.cell (p := ⟨0, 0, none⟩) (by dsimp only; omega)]; exact hm⟩, var?_below hb (g := 1) (by kernel_rfl) (by omega) h.tab, Nat.le_trans hz hb.size⟩

theorem bytes_below {w w' : World} (h : w' = w ∨ ∃ t, w' = Lib.bytesWorld w 5 t) : Below w.heap.size w w' := by
  rcases h with rfl | ⟨t, rfl⟩
  · exact Below.refl _ _
  · exact Lib.bytesWorld_below _ _ _
theorem grow_below {w w' : World} (h : ∃ k os, w' = Sort.grow (w.drewN k) os) : Below w.heap.size w w' := by
  obtain ⟨k, os, rfl⟩ := h
  refine ⟨rfl, rfl, rfl, by simp [Sort.grow], fun i hi => ?_⟩
  simp only [Sort.grow]
  rw [Array.getElem?_append_left (by simpa using hi)]
  rfl

set_option maxRecDepth 100000 in
set_option maxHeartbeats 1600000 in
theorem number_ok (v : Int) (h : Lib.parseIntB 64 (Lib.itoa v) = .ok v) (h1 : -9007199254740992 ≤ v) (h2 : v ≤ 9007199254740992) (hsz : (⟨(Lib.itoa v).toArray⟩ : ByteArray).size ≤ 100) (w : World) (G : Glob w) :
    Calls Tryz.prog 75 #[.string ⟨(Lib.itoa v).toArray⟩] w fun e w' => e = .returned (.tuple #[.int .i64 v, .bool true]) ∧ Below w.heap.size w w' := by
  obtain ⟨s, hs⟩ : ∃ s : ByteArray, (⟨(Lib.itoa v).toArray⟩ : ByteArray) = s := ⟨_, rfl⟩
  have h' : Lib.parseIntB 64 s.data.toList = .ok v := by rw [← hs]; exact h
  have HS := Lib.hid hs
  have H' := Lib.hid h'
  rw [hs] at hsz ⊢
  clear hs h' h
  go_enter Tryz.func75, Tryz.ntmps75
  go_wp2_with fail
  refine (Tryz.strconv_ParseInt_10_at64_ok s (by omega) v H'.out _).mono ?_
  rintro e w1 ⟨rfl, hw⟩
  have b1 := bytes_below hw
  have G1 := G.below b1
  go_wp2_with fail
  refine (Tryz.strconv_FormatInt_10 v (by omega) (by omega) _ G1.tab).mono ?_
  rw [HS.out]
  rintro e w2 ⟨rfl, hw2⟩
  have b2 := grow_below hw2
  go_wp2
  go_ret2
  exact ⟨rfl, b1.trans (b2.mono b1.size)⟩
end Go.Proofs.YthbiiccblcoogaaGreatDoor
