/- oxbowref19's reader: number. -/
import Derived.Test.YthbiiccblcoogaaGreatDoorRefD
set_option linter.unusedVariables false
set_option linter.unusedSimpArgs false
namespace Go.Proofs.YthbiiccblcoogaaGreatDoor
open Go.RowKit

theorem tk_one {l : List UInt8} {st : Option Nat} {ul uh c : UInt8} {q : Nat} (h : tk l st ul uh = (c, some q)) : ∃ n, st = some n ∧ Pat.one l ul uh n = some (c, q) := by
  cases st with
  | none => simp [tk] at h
  | some n =>
    refine ⟨n, rfl, ?_⟩
    unfold tk at h
    simp only at h
    split at h
    · simp at h
    · rename_i c' q' hx
      injection h with h1 h2
      injection h2 with h2
      subst h1; subst h2
      exact hx
theorem nx_one {l : List UInt8} {n : Nat} {ul uh : UInt8} (h : nx l (some n) ul uh = false) : Pat.one l ul uh n = none := by
  have := tk_no h
  unfold tk at this
  simp only at this
  split at this
  · assumption
  · simp at this

set_option maxHeartbeats 3200000 in
theorem rnum_some (b q : Nat) (s : ByteArray) (st : Option Nat) (ul c : UInt8) (least : Int) (el : least = ul.toNat) (hul : 48 ≤ ul.toNat) (w : World) (h : Rr w b s st) (hz : s.size ≤ 4096) (ht : tk s.data.toList st ul 57 = (c, some q)) (h48 : c ≠ 48)
    (R : Int × Nat) (hR : Pat.digits s.data.toList 8 ((c.toNat : Int) - 48) q = R) :
    Calls Tryz.prog 45 #[.pointer (some ⟨b, 0, none⟩), .int .u8 least] w fun e w' => e = .returned (.int .i64 R.1) ∧ Rr w' b s (some R.2) ∧ Oth b w w' := by
  obtain ⟨m, rfl, hx⟩ := tk_one ht
  have hp := one_le hx
  have hc57 : (c.toNat : Int) ≤ 57 := hp.2.2.2
  have hc48 : (48 : Int) < c.toNat := by
    have h1 := hp.2.2.1
    have h2 : c.toNat ≠ 48 := fun h => h48 (UInt8.toNat_inj.1 h)
    omega
  have HT := Lib.hid ht
  have EL := Lib.hid el
  clear ht el hx hp h48
  go_enter Tryz.func45, Tryz.ntmps45
  go_wp2_with fail
  refine (take_any b s (some m) ul 57 least 57 EL.out rfl _ (by exact h) hz).mono ?_
  rw [HT.out]
  rintro e w1 ⟨rfl, hrd1, ho1⟩
  simp only at hrd1
  have hrr := hrd1
  obtain ⟨n, e, p, hb, hn, he, hq⟩ := hrd1
  subst he
  have c2 := hb.cell 2 _ rfl
  clear hq
  generalize (c.toNat : Int) = C at *
  have hne : (C == 48) = false := beq_eq_false_iff_ne.2 (by omega)
  have HR := Lib.hid hR
  clear hR
  go_wp2_with fail
  go_loopw [6, 7] (fun v6 v7 wr => ∃ (k p : Nat) (N : Int), k ≤ 8 ∧ 0 < N ∧ N < 10 ^ (k + 1) ∧ v6 = .int .i64 N ∧ v7 = .int .i64 k ∧ Rr wr b s (some p) ∧ Oth b w wr ∧ Pat.digits s.data.toList (8 - k) N p = R) (fun _ v7 _ => 20 - (intOf v7).toNat)
  case atStart => exact ⟨0, q, C - 48, by omega, by omega, by rw [Int.pow_succ]; omega, by go_num, rfl, hrr, ho1, HR.out⟩
  case round =>
    obtain ⟨k, p', N, hk, hN0, hNk, rfl, rfl, hrd, ho, hres⟩ := hrel
    have hNb : N < 1000000000 := Int.lt_of_lt_of_le hNk (pow_le k hk)
    by_cases h8 : k = 8
    · subst h8
      have HRS := Lib.hid hres
      clear hres hNk
      go_wp2
      go_ret
      exact ⟨by rw [← HRS.out]; rfl, by rw [← HRS.out]; exact hrd, ho⟩
    have hk8 : (k : Int) < 8 := by omega
    cases hx1 : nx s.data.toList (some p') 48 57 with
    | false =>
      have hst := digits_stop (k := 8 - k) (N := N) (nx_one hx1)
      have HRS := Lib.hid (hst.symm.trans hres)
      have HX := Lib.hid hx1
      clear hx1 hst hres hNk
      go_wp2_with fail
      refine (next_any b s (some p') 48 57 48 57 rfl rfl _ (by exact hrd) hz).mono ?_
      rw [HX.out]
      rintro e w2 ⟨rfl, n1, rfl⟩
      go_wp2
      go_ret
      exact ⟨by rw [← HRS.out]; rfl, by rw [← HRS.out]; exact hrd, ho.drewN _⟩
    | true =>
      obtain ⟨_, c1, h1, hg, ht1⟩ := tk_yes hx1
      injection h1 with h1
      subst h1
      obtain ⟨_, h2, ho2⟩ := tk_one ht1
      injection h2 with h2
      subst h2
      have hp1 := one_le ho2
      have hdig : Pat.digits s.data.toList (8 - k) N p' = Pat.digits s.data.toList (8 - (k + 1)) (10 * N + ((c1.toNat : Int) - 48)) (p' + 1) := by
        rw [show 8 - k = (8 - (k + 1)) + 1 from by omega, Pat.digits, ho2]
      have HRS := Lib.hid (hdig.symm.trans hres)
      have hD48 : (48 : Int) ≤ c1.toNat := hp1.2.2.1
      have hD57 : (c1.toNat : Int) ≤ 57 := hp1.2.2.2
      have HX := Lib.hid hx1
      have HT1 := Lib.hid ht1
      clear hx1 hdig hres ht1 hp1 ho2 hg
      have HT2 := Lib.hid (show (((tk s.data.toList (some p') 48 57).1.toNat : Nat) : Int) = (c1.toNat : Int) ∧ (tk s.data.toList (some p') 48 57).2 = some (p' + 1) by rw [HT1.out]; exact ⟨rfl, rfl⟩)
      generalize (c1.toNat : Int) = D at *
      have HNK := Lib.hid (pow_next hNk (show D - 48 ≤ 9 by omega))
      clear hNk
      go_wp2_with fail
      refine (next_any b s (some p') 48 57 48 57 rfl rfl _ (by exact hrd) hz).mono ?_
      rw [HX.out]
      rintro e w2 ⟨rfl, n1, rfl⟩
      go_wp2_with fail
      refine (take_any b s (some p') 48 57 48 57 rfl rfl _ (by exact hrd.drewN n1) hz).mono ?_
      rw [HT2.out.1, HT2.out.2]
      rintro e w3 ⟨rfl, hrd3, ho3⟩
      go_wp2
      go_roundw
      case rel => exact ⟨k + 1, p' + 1, 10 * N + (D - 48), by omega, by omega, HNK.out, by go_num, by go_num, hrd3, ho.trans ho3.undrewN, HRS.out⟩
      case measure => simp [intOf]; omega

/-- number. -/
theorem rnum_any (b : Nat) (s : ByteArray) (st : Option Nat) (ul : UInt8) (least : Int) (el : least = ul.toNat) (hul : 48 ≤ ul.toNat) (w : World) (h : Rr w b s st) (hz : s.size ≤ 4096) :
    Calls Tryz.prog 45 #[.pointer (some ⟨b, 0, none⟩), .int .u8 least] w fun e w' => e = .returned (.int .i64 (nm s.data.toList st ul).1) ∧ Rr w' b s (nm s.data.toList st ul).2 ∧ Oth b w w' := by
  rw [nm_eq]
  rcases ht : tk s.data.toList st ul 57 with ⟨c, _ | q⟩
  · exact rnum_bad b s st ul least el w h hz c ht
  · by_cases h48 : c = 48
    · subst h48
      exact rnum_zero b q s st ul least el w h hz ht
    · simp only
      rw [if_neg h48]
      exact rnum_some b q s st ul c least el hul w h hz ht h48 _ rfl
end Go.Proofs.YthbiiccblcoogaaGreatDoor

/- oxbowref19's step: what it computes; words of its walk. -/
namespace Go.Proofs.YthbiiccblcoogaaGreatDoor
open Go.RowKit

/-- What 'step' of the definitions gives, from a state. -/
def rstepHead (l : List UInt8) (A : Nat) (st : Option Nat) : Option Nat :=
  if nx l st 33 33 = true then (if 8 ≤ A then none else (tk l st 33 33).2) else st
def rstepTail (l : List UInt8) (k n : UInt8) (neg : Bool) (st5 : Option Nat) : Pat.Step × Option Nat :=
  if nx l st5 123 123 = true then
    if neg = true then (⟨k, n, neg, 1, 1⟩, none) else
    let st6 := (tk l st5 123 123).2
    let lo := nm l st6 48
    let st8 := (tk l lo.2 44 44).2
    let hi := nm l st8 48
    let st10 := (tk l hi.2 125 125).2
    if lo.1 < 1 ∨ hi.1 < lo.1 ∨ 4 < hi.1 ∨ hi.1 < 2 then (⟨k, n, neg, 1, 1⟩, none) else (⟨k, n, neg, lo.1, hi.1⟩, st10)
  else (⟨k, n, neg, 1, 1⟩, st5)
def rstep (l : List UInt8) (A : Nat) (st : Option Nat) : Pat.Step × Option Nat :=
  let neg := nx l st 33 33
  let a := tk l (rstepHead l A st) 65 90
  let st3 := if 8 ≤ A then none else a.2
  let c := tk l (tk l st3 32 32).2 97 122
  rstepTail l a.1 c.1 neg c.2

/-- While 'step' runs: the reader, the result's variable, the step's. -/
structure Sg (b : Nat) (s : ByteArray) (w : World) (st : Option Nat) (z : Array Value) (wr : World) : Prop where
  rd : Rr wr b s st
  oth : Oth b w wr
  res : Lb wr w.heap.size #[.int .u8 0, .int .u8 0, .bool false, .int .i64 0, .int .i64 0] 130
  blk : Lb wr (w.heap.size + 1) z 130
theorem Sg.via {b : Nat} {s : ByteArray} {w wr W : World} {st st' : Option Nat} {z : Array Value} (hb : b < w.heap.size) (h : Sg b s w st z wr) (hr : Rr W b s st') (ho : Oth b wr W) : Sg b s w st' z W :=
  ⟨hr, h.oth.trans ho, h.res.oth ho (by omega), h.blk.oth ho (by omega)⟩
theorem Rr.other {w : World} {b : Nat} {s : ByteArray} {st : Option Nat} (h : Rr w b s st) (p : Addr) (v : Value) (hp : b ≠ p.block) : Rr (w.setCell p v) b s st := by
  obtain ⟨n, e, q, hb, r⟩ := h; exact ⟨n, e, q, hb.other p v hp, r⟩
theorem Rr.alloc {w : World} {b : Nat} {s : ByteArray} {st : Option Nat} (h : Rr w b s st) (o : Obj) : Rr (w.alloc o) b s st := by
  obtain ⟨n, e, q, hb, r⟩ := h; exact ⟨n, e, q, hb.alloc o, r⟩
theorem Sg.set {b : Nat} {s : ByteArray} {w wr : World} {st : Option Nat} {z : Array Value} (hb : b < w.heap.size) (h : Sg b s w st z wr) (i : Nat) (v : Value) : Sg b s w st (z.setIfInBounds i v) (wr.setCell ⟨w.heap.size + 1, i, none⟩ v) :=
  ⟨h.rd.other _ _ (by dsimp only; omega), h.oth.new (Nat.le_succ _) _, h.res.other _ _ (by dsimp only; omega), h.blk.set i v⟩
theorem Sg.start {b : Nat} {s : ByteArray} {w : World} {st : Option Nat} (h : Rr w b s st) : Sg b s w st #[.int .u8 0, .int .u8 0, .bool false, .int .i64 1, .int .i64 1]
    ((w.alloc (.cells #[.int .u8 0, .int .u8 0, .bool false, .int .i64 0, .int .i64 0] 130)).alloc (.cells #[.int .u8 0, .int .u8 0, .bool false, .int .i64 1, .int .i64 1] 130)) := by
  have h2 := Lb.new (w.alloc (.cells #[.int .u8 0, .int .u8 0, .bool false, .int .i64 0, .int .i64 0] 130)) #[.int .u8 0, .int .u8 0, .bool false, .int .i64 1, .int .i64 1] 130
  simp only [sz_alloc] at h2
  exact ⟨(h.alloc _).alloc _, ((Oth.refl b w).alloc _).alloc _, (Lb.new w _ 130).alloc _, h2⟩

theorem next_is (b : Nat) (s : ByteArray) (st : Option Nat) (ul uh : UInt8) (lo hi : Int) (hlo : lo = ul.toNat) (hhi : hi = uh.toNat) (w : World) (h : Rr w b s st) (hz : s.size ≤ 4096) (T : Bool) (hT : nx s.data.toList st ul uh = T) :
    Calls Tryz.prog 42 #[.pointer (some ⟨b, 0, none⟩), .int .u8 lo, .int .u8 hi] w fun e w' => e = .returned (.bool T) ∧ Rr w' b s st ∧ Oth b w w' := by
  subst hT
  exact (next_any b s st ul uh lo hi hlo hhi w h hz).mono fun _ _ ⟨a, k, e⟩ => ⟨a, by rw [e]; exact h.drewN k, by rw [e]; exact (Oth.refl b w).drewN k⟩
theorem take_is (b : Nat) (s : ByteArray) (st : Option Nat) (ul uh : UInt8) (lo hi : Int) (hlo : lo = ul.toNat) (hhi : hi = uh.toNat) (w : World) (h : Rr w b s st) (hz : s.size ≤ 4096) (K : UInt8 × Option Nat) (hK : tk s.data.toList st ul uh = K) :
    Calls Tryz.prog 43 #[.pointer (some ⟨b, 0, none⟩), .int .u8 lo, .int .u8 hi] w fun e w' => e = .returned (.int .u8 K.1.toNat) ∧ Rr w' b s K.2 ∧ Oth b w w' := by
  subst hK; exact take_any b s st ul uh lo hi hlo hhi w h hz
theorem num_is (b : Nat) (s : ByteArray) (st : Option Nat) (ul : UInt8) (least : Int) (el : least = ul.toNat) (hul : 48 ≤ ul.toNat) (w : World) (h : Rr w b s st) (hz : s.size ≤ 4096) (K : Int × Option Nat) (hK : nm s.data.toList st ul = K) :
    Calls Tryz.prog 45 #[.pointer (some ⟨b, 0, none⟩), .int .u8 least] w fun e w' => e = .returned (.int .i64 K.1) ∧ Rr w' b s K.2 ∧ Oth b w w' := by
  subst hK; exact rnum_any b s st ul least el hul w h hz
theorem Sg.at {b : Nat} {s : ByteArray} {w wr : World} {st : Option Nat} {z : Array Value} (h : Sg b s w st z wr) : ∃ n : Nat, wr.cell? ⟨b, 1, none⟩ = some (.int .i64 n) := by
  obtain ⟨n, e, q, hb, r⟩ := h.rd; exact ⟨n, hb.cell 1 _ rfl⟩
end Go.Proofs.YthbiiccblcoogaaGreatDoor
