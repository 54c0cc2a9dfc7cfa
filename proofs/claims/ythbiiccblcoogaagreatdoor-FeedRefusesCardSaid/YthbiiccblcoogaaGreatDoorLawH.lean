/- The law's configuration: whatever the coins. -/
import Derived.Test.YthbiiccblcoogaaGreatDoorLawC
import Derived.Test.YthbiiccblcoogaaGreatDoorLawI
import Derived.Test.YthbiiccblcoogaaGreatDoorFeedE
set_option linter.unusedVariables false
set_option linter.unusedSimpArgs false
namespace Go.Proofs.YthbiiccblcoogaaGreatDoor
open Go.RowKit

/-- Coins, where they can be read. -/
def Cn (w : World) (q : Option Addr) (n cp : Nat) : Prop :=
  n = 0 ∨ ∃ (ad : Addr) (zs : List Int), q = some ad ∧ 1 ≤ n ∧ zs.length = n ∧ n ≤ cp ∧ cp * 8 ≤ 140737488355328 ∧ ∀ j z, zs[j]? = some z → w.cell? (ad.add j) = some (.int .i64 z)
theorem Cn.below {w w' : World} {q : Option Addr} {n cp : Nat} (h : Cn w q n cp) (hb : Below w.heap.size w w') : Cn w' q n cp := by
  rcases h with h | ⟨ad, zs, h1, h2, h3, h4, h5, h6⟩
  · exact .inl h
  · refine .inr ⟨ad, zs, h1, h2, h3, h4, h5, fun j z hz => ?_⟩
    have h := h6 j z hz
    rw [hb.cell (World.block_lt_of_cell? w _ h)]
    exact h

theorem config_any (M B C F Z Ba Ra : Int) (q : Option Addr) (n cp : Nat) (w : World) (hM : I64 M) (hB : I64 B) (hC : I64 C) (hF : I64 F) (hq : Cn w q n cp) :
    Calls Tryz.prog 8 #[.agg #[.int .i64 M, .int .i64 B, .int .i64 C, .int .i64 F, .int .i64 Z, .int .i64 Ba, .int .i64 Ra, .slice q n cp]] w (CfgR w) := by
  rcases hq with rfl | ⟨ad, zs, rfl, h1, h2, h3, h4, h5⟩
  · exact config_none M B C F Z Ba Ra q cp w hM hB hC hF
  · by_cases h50 : (50 : Int) < n
    · exact config_big M B C F Z Ba Ra ad n cp zs w h1 h2 h3 h4 h5 hM hB hC hF h50
    · exact config_mid M B C F Z Ba Ra ad n cp zs w h1 h2 h3 h4 h5 hM hB hC hF h50
end Go.Proofs.YthbiiccblcoogaaGreatDoor

/- The law: FeedRefuses. -/
namespace Go.Proofs.YthbiiccblcoogaaGreatDoor
open Go.RowKit

theorem new_le {W : World} {D : Nat} {o : Obj} (h : (W.alloc o).heap.size ≤ D) : W.heap.size ≤ D := by simp at h; omega
theorem new_ne {W : World} {N D : Nat} {o : Obj} (h : W.heap.size ≤ D ∨ (W.alloc o).heap.size ≤ D) (hN : N < W.heap.size) : N ≠ D := by
  rcases h with h | h
  · omega
  · simp at h; omega

set_option maxRecDepth 100000 in
set_option maxHeartbeats 6400000 in
theorem law_any (s : ByteArray) (g : Option Addr) (n cp : Nat) (M B C F Z Ba Ra : Int) (q : Option Addr) (k kc : Nat) (w : World) (G : Glob w) (hn : n * 32 ≤ 140737488355328) (hv : Iv w g n) (hM : I64 M) (hB : I64 B) (hC : I64 C) (hF : I64 F) (hq : Cn w q k kc) :
    Calls Tryz.prog 3 #[.string s, .slice g n cp, .agg #[.int .i64 M, .int .i64 B, .int .i64 C, .int .i64 F, .int .i64 Z, .int .i64 Ba, .int .i64 Ra, .slice q k kc]] w fun e w' => e = .returned (.bool true) ∧ Below w.heap.size w w' := by
  have B0 := (Below.refl w.heap.size w).alloc (Nat.le_refl _) (.cells #[.int .i64 M, .int .i64 B, .int .i64 C, .int .i64 F, .int .i64 Z, .int .i64 Ba, .int .i64 Ra, .slice q k kc] 25)
  have X0 := Lb.new w #[.int .i64 M, .int .i64 B, .int .i64 C, .int .i64 F, .int .i64 Z, .int .i64 Ba, .int .i64 Ra, .slice q k kc] 25
  have HV := Lib.hid (both_any g n cp _ hn (hv.below B0))
  have HQ := Lib.hid hq
  have HG := Lib.hid G
  clear hv hq G hn
  go_enter Tryz.func3, Tryz.ntmps3
  go_wp2_with fail
  refine HV.out.mono ?_
  rintro e w1 ⟨⟨g1, g2, n1, n2, c1, c2, rfl⟩, b1⟩
  have B1 := B0.trans (b1.mono B0.size)
  have X1 := lb_below X0 b1 X0.lt
  go_wp2_with fail
  refine (drive_nil g1 n1 c1 _).mono ?_
  rintro e w' ⟨rfl, rfl⟩
  go_wp2_with fail
  refine (matches_nil _).mono ?_
  rintro e w' ⟨rfl, rfl⟩
  have x0 := X1.cell 0 _ rfl
  have x1 := X1.cell 1 _ rfl
  have x2 := X1.cell 2 _ rfl
  have x3 := X1.cell 3 _ rfl
  have x4 := X1.cell 4 _ rfl
  have x5 := X1.cell 5 _ rfl
  have x6 := X1.cell 6 _ rfl
  have x7 := X1.cell 7 _ rfl
  go_wp2_with fail
  refine (config_any M B C F Z Ba Ra q k kc _ hM hB hC hF (HQ.out.below B1)).mono ?_
  rintro e w2 ⟨⟨a, b, c, d, f, u, v, p, r, t, rfl⟩, b2⟩
  have B2 := B1.trans (b2.mono B1.size)
  have X2 := lb_below X1 b2 X1.lt
  clear x0 x1 x2 x3 x4 x5 x6 x7
  go_wp2_with fail
  refine (play_nil 1073741824 a b c d f u v p g1 r t n1 c1 s _).mono ?_
  rintro e w3 ⟨rfl, b3⟩
  have B3 := B2.trans (b3.mono B2.size)
  have X3 := lb_below X2 b3 X2.lt
  go_wp2_with fail
  refine (wakes_any _ (HG.out.below B3)).mono ?_
  rintro e w4 ⟨rfl, b4⟩
  have B4 := B3.trans (b4.mono B3.size)
  have X4 := lb_below X3 b4 X3.lt
  go_wp2_with fail
  refine (planned_any s _).mono ?_
  rintro e w5 ⟨⟨gp, mp, np, wp, T, rfl, hT⟩, b5⟩
  have B5 := B4.trans (b5.mono B4.size)
  have X5 := lb_below X4 b5 X4.lt
  have HT := Lib.hid hT
  clear hT
  rcases T with _ | _
  · have hs : ∀ p, Pat.parse s.data.toList = some p → ¬ Okay p := fun p hp ho => by
      have := HT.out.2 ⟨p, hp, ho⟩
      cases this
    have HS := Lib.hid hs
    clear hs
    go_wp2_with fail
    have BW0 := B5.alloc B5.size (.cells #[.slice gp mp np, .int .i64 wp] 46)
    have XW0 := X5.alloc (.cells #[.slice gp mp np, .int .i64 wp] 46)
    generalize hW : w5.alloc (.cells #[.slice gp mp np, .int .i64 wp] 46) = W at *
    clear hW X0 X1 X2 X3 X4 X5 b1 b2 b3 b4 b5 B1 B2 B3 B4 B5
    have zW := XW0.lt
    have x0 := XW0.cell 0 _ rfl
    have x1 := XW0.cell 1 _ rfl
    have x2 := XW0.cell 2 _ rfl
    have x3 := XW0.cell 3 _ rfl
    have x4 := XW0.cell 4 _ rfl
    have x5 := XW0.cell 5 _ rfl
    have x6 := XW0.cell 6 _ rfl
    have x7 := XW0.cell 7 _ rfl
    have BW := Lib.hid BW0
    have XW := Lib.hid XW0
    clear BW0 XW0
    go_region_held3 (fun w' => w'.cell? ⟨w.heap.size, 0, none⟩ = some (.int .i64 M) ∧ w'.cell? ⟨w.heap.size, 1, none⟩ = some (.int .i64 B) ∧ w'.cell? ⟨w.heap.size, 2, none⟩ = some (.int .i64 C) ∧ w'.cell? ⟨w.heap.size, 3, none⟩ = some (.int .i64 F) ∧ w'.cell? ⟨w.heap.size, 4, none⟩ = some (.int .i64 Z) ∧ w'.cell? ⟨w.heap.size, 5, none⟩ = some (.int .i64 Ba) ∧ w'.cell? ⟨w.heap.size, 6, none⟩ = some (.int .i64 Ra) ∧ w'.cell? ⟨w.heap.size, 7, none⟩ = some (.slice q k kc)) (first | go_keep | exact ⟨XP.cell 0 _ rfl, XP.cell 1 _ rfl, XP.cell 2 _ rfl, XP.cell 3 _ rfl, XP.cell 4 _ rfl, XP.cell 5 _ rfl, XP.cell 6 _ rfl, XP.cell 7 _ rfl⟩ | exact ⟨XC.cell 0 _ rfl, XC.cell 1 _ rfl, XC.cell 2 _ rfl, XC.cell 3 _ rfl, XC.cell 4 _ rfl, XC.cell 5 _ rfl, XC.cell 6 _ rfl, XC.cell 7 _ rfl⟩ | exact ⟨XN.cell 0 _ rfl, XN.cell 1 _ rfl, XN.cell 2 _ rfl, XN.cell 3 _ rfl, XN.cell 4 _ rfl, XN.cell 5 _ rfl, XN.cell 6 _ rfl, XN.cell 7 _ rfl⟩)
      (first
        | (go_at_call 11; refine (new_any _).mono ?_; rintro e wN ⟨D, dA, dB, rfl, hD, bN, hDn⟩; (first | (have bX : Below W.heap.size W wN := ((Below.refl W.heap.size W).drew).trans bN) | (have bX : Below W.heap.size W wN := (((Below.refl W.heap.size W).alloc (Nat.le_refl _) _).drew).trans (bN.mono (by simp)))); (first | (have LN := lb_below (Lb.drew (Lb.new W #[.int .i64 1, .int .i64 0, .slice none 0 0] 52)) bN (by simp)) | skip); have XN := lb_below XW.out bX zW; (first | (have hDw : W.heap.size ≤ D := hDn) | (have hDw : W.heap.size ≤ D := new_le (o := .cells #[.int .i64 1, .int .i64 0, .slice none 0 0] 52) hDn)); have bxz := bX.size; (first | (have hne : w.heap.size ≠ D := new_ne (o := .cells #[] 0) (Or.inl hDn) zW) | (have hne : w.heap.size ≠ D := new_ne (o := .cells #[.int .i64 1, .int .i64 0, .slice none 0 0] 52) (Or.inr hDn) zW)))
        | (go_at_call 8; refine (config_any M B C F Z Ba Ra q k kc _ hM hB hC hF ?_).mono ?_; (first | exact HQ.out.below (BW.out.trans (bX.mono BW.out.size)) | exact HQ.out.below ((BW.out.trans (bX.mono BW.out.size)).alloc (by have := BW.out.size; omega) _)); rintro e wC ⟨⟨a', b', c', d', f', u', v', p', r', t', rfl⟩, bC⟩; (first | (have bY : Below wN.heap.size wN wC := bC) | (have bY : Below wN.heap.size wN wC := ((Below.refl wN.heap.size wN).alloc (Nat.le_refl _) _).trans (bC.mono (by simp)))); have hD2 := lb_below hD bY hD.lt; have XC := lb_below XN bY XN.lt; (first | (have LC := lb_below LN bY LN.lt) | (have LC := lb_below (Lb.new wN #[.int .i64 1, .int .i64 0, .slice none 0 0] 52) bC (by simp)) | skip))
        | (go_at_call 7; (first | (with_reducible refine (play_bad D dA dB _ 1073741824 0 1073741824 a' b' c' d' f' u' v' p' g1 r' t' n1 c1 s wC hD2 LC HS.out).mono ?_) | (with_reducible refine (play_bad D dA dB _ 1073741824 0 1073741824 a' b' c' d' f' u' v' p' g1 r' t' n1 c1 s _ (hD2.alloc (.cells #[.int .i64 1, .int .i64 0, .slice none 0 0] 52)) (Lb.new wC #[.int .i64 1, .int .i64 0, .slice none 0 0] 52) HS.out).mono ?_)); rintro e wP ⟨⟨E, rfl, hE⟩, oP⟩; have hE0 : (E != 0) = true := bne_iff_ne.2 hE.1; (first | (have XP := XC.oth oP hne) | (have XP := (XC.alloc (.cells #[.int .i64 1, .int .i64 0, .slice none 0 0] 52)).oth oP hne))))
    all_goals
      go_wp2
      go_ret
      refine ⟨rfl, ?_⟩
      have hbw := BW.out.size
      have hby := bY.size
      first
        | exact ((BW.out.trans (bX.mono hbw)).trans (bY.mono (by omega))).trans (oP.below (by omega) (by omega))
        | exact (((BW.out.trans (bX.mono hbw)).trans (bY.mono (by omega))).alloc (by omega) _).trans (oP.below (by omega) (by simp; omega))
  · go_wp2
    go_ret
    exact ⟨rfl, B5.alloc B5.size _⟩
end Go.Proofs.YthbiiccblcoogaaGreatDoor
