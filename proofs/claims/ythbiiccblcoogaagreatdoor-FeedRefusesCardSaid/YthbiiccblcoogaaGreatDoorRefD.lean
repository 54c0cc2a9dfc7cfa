/- oxbowref19's reader: next, fail, take. -/
import Derived.Test.YthbiiccblcoogaaGreatDoorPlanF
set_option linter.unusedVariables false
set_option linter.unusedSimpArgs false
namespace Go.Proofs.YthbiiccblcoogaaGreatDoor
open Go.RowKit

/-- The reader of the definitions: at a place; or at fault. -/
def Rr (w : World) (b : Nat) (s : ByteArray) (st : Option Nat) : Prop :=
  ∃ (n : Nat) (e p : Int), Lb w b #[.string s, .int .i64 n, .int .i64 e, .int .i64 p] 127 ∧ n ≤ s.size ∧ (match st with | some k => e = 0 ∧ n = k | none => e ≠ 0)
theorem Rr.drewN {w : World} {b : Nat} {s : ByteArray} {st : Option Nat} (h : Rr w b s st) (k : Nat) : Rr (w.drewN k) b s st := h
theorem Rr.lt {w : World} {b : Nat} {s : ByteArray} {st : Option Nat} (h : Rr w b s st) : b < w.heap.size := by
  obtain ⟨_, _, _, h, _⟩ := h; exact h.lt

/-- What 'next' gives. -/
def nx (l : List UInt8) (st : Option Nat) (ul uh : UInt8) : Bool := match st with | some n => Pat.isB l ul uh n | none => false

set_option maxHeartbeats 800000 in
theorem next_bad (b : Nat) (s : ByteArray) (lo hi n e p : Int) (w : World) (h : Lb w b #[.string s, .int .i64 n, .int .i64 e, .int .i64 p] 127) (he : (e == 0) = false) :
    Calls Tryz.prog 42 #[.pointer (some ⟨b, 0, none⟩), .int .u8 lo, .int .u8 hi] w fun e w' => e = .returned (.bool false) ∧ Dr w w' := by
  have c0 := h.cell 0 _ rfl
  have c1 := h.cell 1 _ rfl
  have c2 := h.cell 2 _ rfl
  go_enter Tryz.func42, Tryz.ntmps42
  go_wp2
  go_quiet (fail)
  go_wp2
  go_ret
  exact ⟨rfl, Dr.of _ _⟩

set_option maxHeartbeats 800000 in
theorem next_end (b : Nat) (s : ByteArray) (lo hi p : Int) (n : Nat) (w : World) (h : Lb w b #[.string s, .int .i64 n, .int .i64 0, .int .i64 p] 127) (hz : s.size ≤ 4096) (hn : ¬ n < s.size) :
    Calls Tryz.prog 42 #[.pointer (some ⟨b, 0, none⟩), .int .u8 lo, .int .u8 hi] w fun e w' => e = .returned (.bool false) ∧ Dr w w' := by
  have c0 := h.cell 0 _ rfl
  have c1 := h.cell 1 _ rfl
  have c2 := h.cell 2 _ rfl
  have hd : decide ((n : Int) < s.size) = false := by simp; omega
  go_enter Tryz.func42, Tryz.ntmps42
  go_wp2
  go_quiet (fail)
  go_wp2
  go_ret
  exact ⟨rfl, Dr.of _ _⟩

set_option maxHeartbeats 800000 in
theorem next_low (b n : Nat) (s : ByteArray) (lo hi p C : Int) (w : World) (h : Lb w b #[.string s, .int .i64 n, .int .i64 0, .int .i64 p] 127) (hz : s.size ≤ 4096) (hn : n < s.size) (hc : ((s[n]'hn).toNat : Int) = C) (h1 : decide (lo ≤ C) = false) :
    Calls Tryz.prog 42 #[.pointer (some ⟨b, 0, none⟩), .int .u8 lo, .int .u8 hi] w fun e w' => e = .returned (.bool false) ∧ Dr w w' := by
  have c0 := h.cell 0 _ rfl
  have c1 := h.cell 1 _ rfl
  have c2 := h.cell 2 _ rfl
  have hd : decide ((n : Int) < s.size) = true := by simp; omega
  go_enter Tryz.func42, Tryz.ntmps42
  go_wp2
  go_quiet (fail)
  go_wp2
  go_ret
  exact ⟨rfl, Dr.of _ _⟩

set_option maxHeartbeats 800000 in
theorem next_in (b n : Nat) (s : ByteArray) (lo hi p C : Int) (t : Bool) (w : World) (h : Lb w b #[.string s, .int .i64 n, .int .i64 0, .int .i64 p] 127) (hz : s.size ≤ 4096) (hn : n < s.size) (hc : ((s[n]'hn).toNat : Int) = C) (h1 : decide (lo ≤ C) = true) (h2 : decide (C ≤ hi) = t) :
    Calls Tryz.prog 42 #[.pointer (some ⟨b, 0, none⟩), .int .u8 lo, .int .u8 hi] w fun e w' => e = .returned (.bool t) ∧ Dr w w' := by
  have c0 := h.cell 0 _ rfl
  have c1 := h.cell 1 _ rfl
  have c2 := h.cell 2 _ rfl
  have hd : decide ((n : Int) < s.size) = true := by simp; omega
  go_enter Tryz.func42, Tryz.ntmps42
  go_wp2
  go_quiet (fail)
  go_wp2
  go_ret
  exact ⟨rfl, Dr.of _ _⟩
end Go.Proofs.YthbiiccblcoogaaGreatDoor

/- oxbowref19's reader: next, fail, take. -/
namespace Go.Proofs.YthbiiccblcoogaaGreatDoor
open Go.RowKit

theorem le_dec (a b : UInt8) : (a ≤ b) ↔ (a.toNat : Int) ≤ b.toNat := by
  rw [UInt8.le_iff_toNat_le]; omega

theorem next_any (b : Nat) (s : ByteArray) (st : Option Nat) (ul uh : UInt8) (lo hi : Int) (hlo : lo = ul.toNat) (hhi : hi = uh.toNat) (w : World) (h : Rr w b s st) (hz : s.size ≤ 4096) :
    Calls Tryz.prog 42 #[.pointer (some ⟨b, 0, none⟩), .int .u8 lo, .int .u8 hi] w fun e w' => e = .returned (.bool (nx s.data.toList st ul uh)) ∧ Dr w w' := by
  obtain ⟨n, e, p, hb, hn, hst⟩ := h
  cases st with
  | none =>
    exact next_bad b s lo hi n e p w hb (beq_eq_false_iff_ne.2 hst)
  | some k =>
    obtain ⟨rfl, rfl⟩ := hst
    subst hlo
    subst hhi
    by_cases hlt : n < s.size
    · have hg := get_byte hlt
      have e1 : nx s.data.toList (some n) ul uh = decide (ul ≤ s[n]'hlt ∧ s[n]'hlt ≤ uh) := by
        show Pat.isB _ _ _ _ = _
        unfold Pat.isB; rw [hg]
      rw [e1]
      by_cases h1 : ul ≤ s[n]'hlt
      · have d1 : decide ((ul.toNat : Int) ≤ (s[n]'hlt).toNat) = true := decide_eq_true ((le_dec _ _).1 h1)
        by_cases h2 : s[n]'hlt ≤ uh
        · rw [decide_eq_true ⟨h1, h2⟩]
          exact next_in b n s _ _ p _ true w hb hz hlt rfl d1 (decide_eq_true ((le_dec _ _).1 h2))
        · rw [decide_eq_false (fun h => h2 h.2)]
          exact next_in b n s _ _ p _ false w hb hz hlt rfl d1 (decide_eq_false (fun h => h2 ((le_dec _ _).2 h)))
      · rw [decide_eq_false (fun h => h1 h.1)]
        exact next_low b n s _ _ p _ w hb hz hlt rfl (decide_eq_false (fun h => h1 ((le_dec _ _).2 h)))
    · have e1 : nx s.data.toList (some n) ul uh = false := by
        show Pat.isB _ _ _ _ = _
        unfold Pat.isB; rw [get_none hlt]
      rw [e1]
      exact next_end b s _ _ p n w hb hz hlt

theorem Rr.new_bad {w : World} {b : Nat} {s : ByteArray} {n : Nat} {e p : Int} (h : Lb w b #[.string s, .int .i64 n, .int .i64 e, .int .i64 p] 127) (hn : n ≤ s.size) (he : e ≠ 0) : Rr w b s none := ⟨n, e, p, h, hn, he⟩
theorem Rr.new_ok {w : World} {b : Nat} {s : ByteArray} {n : Nat} {p : Int} (h : Lb w b #[.string s, .int .i64 n, .int .i64 0, .int .i64 p] 127) (hn : n ≤ s.size) : Rr w b s (some n) := ⟨n, 0, p, h, hn, rfl, rfl⟩

set_option maxHeartbeats 800000 in
/-- The first fault. -/
theorem rfail_any (b : Nat) (s : ByteArray) (st : Option Nat) (A E : Int) (hE : E ≠ 0) (w : World) (h : Rr w b s st) :
    Calls Tryz.prog 46 #[.pointer (some ⟨b, 0, none⟩), .int .i64 A, .int .i64 E] w fun e w' => e = .returned (.tuple #[]) ∧ Rr w' b s none ∧ Oth b w w' := by
  obtain ⟨n, e, p, hb, hn, hst⟩ := h
  have c0 := hb.cell 0 _ rfl
  have c1 := hb.cell 1 _ rfl
  have c2 := hb.cell 2 _ rfl
  have c3 := hb.cell 3 _ rfl
  have cf := fun i => hb.frozen i
  by_cases he : e = 0
  · subst he
    have HE := Lib.hid hE
    clear hst hE
    go_enter Tryz.func46, Tryz.ntmps46
    go_wp2
    refine ⟨rfl, .tuple #[], by simp [results, Tryz.results46, go_sem], rfl, ?_, ?_⟩
    · exact Rr.new_bad ((hb.set 2 (.int .i64 E)).set 3 (.int .i64 A)) hn HE.out
    · exact ((Oth.refl b w).setCell _ _).setCell _ _
  · have hne : (e == 0) = false := beq_eq_false_iff_ne.2 he
    have HE := Lib.hid he
    clear hst hE he
    go_enter Tryz.func46, Tryz.ntmps46
    go_wp2
    refine ⟨rfl, .tuple #[], by simp [results, Tryz.results46, go_sem], rfl, ?_, ?_⟩
    · exact Rr.new_bad hb hn HE.out
    · exact Oth.refl b w

/-- What 'take' gives. -/
def tk (l : List UInt8) (st : Option Nat) (ul uh : UInt8) : UInt8 × Option Nat :=
  match st with
  | none => (0, none)
  | some n => match Pat.one l ul uh n with | none => (0, none) | some (c, q) => (c, some q)
theorem tk_no {l : List UInt8} {st : Option Nat} {ul uh : UInt8} (h : nx l st ul uh = false) : tk l st ul uh = (0, none) := by
  cases st with
  | none => rfl
  | some n =>
    cases hg : l[n]? with
    | none => simp [tk, Pat.one, hg]
    | some c =>
      simp only [nx, Pat.isB, hg] at h
      simp only [tk, Pat.one, hg]
      rw [if_neg (of_decide_eq_false h)]
theorem tk_yes {l : List UInt8} {st : Option Nat} {ul uh : UInt8} (h : nx l st ul uh = true) : ∃ n c, st = some n ∧ l[n]? = some c ∧ tk l st ul uh = (c, some (n + 1)) := by
  cases st with
  | none => cases h
  | some n =>
    cases hg : l[n]? with
    | none => simp [nx, Pat.isB, hg] at h
    | some c =>
      simp only [nx, Pat.isB, hg] at h
      refine ⟨n, c, rfl, hg, ?_⟩
      simp only [tk, Pat.one, hg]
      rw [if_pos (of_decide_eq_true h)]

set_option maxHeartbeats 800000 in
theorem take_no (b : Nat) (s : ByteArray) (st : Option Nat) (ul uh : UInt8) (lo hi : Int) (hlo : lo = ul.toNat) (hhi : hi = uh.toNat) (w : World) (h : Rr w b s st) (hz : s.size ≤ 4096) (hx : nx s.data.toList st ul uh = false) :
    Calls Tryz.prog 43 #[.pointer (some ⟨b, 0, none⟩), .int .u8 lo, .int .u8 hi] w fun e w' => e = .returned (.int .u8 0) ∧ Rr w' b s none ∧ Oth b w w' := by
  have HX := Lib.hid hx
  have HLO := Lib.hid hlo
  have HHI := Lib.hid hhi
  clear hx hlo hhi
  have hrr := h
  obtain ⟨n, e, p, hb, hn, hst⟩ := h
  have c1 := hb.cell 1 _ rfl
  have HST := Lib.hid hst
  clear hst
  go_enter Tryz.func43, Tryz.ntmps43
  go_wp2_with fail
  refine (next_any b s st ul uh lo hi HLO.out HHI.out _ (by exact hrr) hz).mono ?_
  rw [HX.out]
  rintro e w1 ⟨rfl, k, rfl⟩
  go_wp2_with fail
  refine (rfail_any b s st _ 20 (by decide) _ (by exact hrr.drewN k)).mono ?_
  rintro e w2 ⟨rfl, hr2, ho2⟩
  go_wp2
  go_ret
  exact ⟨rfl, hr2, ho2.undrewN⟩

set_option maxHeartbeats 800000 in
theorem take_yes (b n : Nat) (s : ByteArray) (ul uh : UInt8) (lo hi p C : Int) (hlo : lo = ul.toNat) (hhi : hi = uh.toNat) (w : World) (hb : Lb w b #[.string s, .int .i64 n, .int .i64 0, .int .i64 p] 127) (hz : s.size ≤ 4096) (hn : n < s.size) (hc : ((s[n]'hn).toNat : Int) = C) (hx : nx s.data.toList (some n) ul uh = true) :
    Calls Tryz.prog 43 #[.pointer (some ⟨b, 0, none⟩), .int .u8 lo, .int .u8 hi] w fun e w' => e = .returned (.int .u8 C) ∧ Rr w' b s (some (n + 1)) ∧ Oth b w w' := by
  have HX := Lib.hid hx
  have HLO := Lib.hid hlo
  have HHI := Lib.hid hhi
  clear hx hlo hhi
  have c0 := hb.cell 0 _ rfl
  have c1 := hb.cell 1 _ rfl
  have cf := fun i => hb.frozen i
  go_enter Tryz.func43, Tryz.ntmps43
  go_wp2_with fail
  refine (next_any b s (some n) ul uh lo hi HLO.out HHI.out _ (by exact Rr.new_ok hb (Nat.le_of_lt hn)) hz).mono ?_
  rw [HX.out]
  rintro e w1 ⟨rfl, k, rfl⟩
  have M := ((hb.drewN k).set 1 (.int .i64 ((n + 1 : Nat) : Int)))
  have m0 := M.cell 0 _ rfl
  have m1 := M.cell 1 _ rfl
  have hk : ((n : Int) + 1) - 1 = n := by omega
  go_wp2
  go_quiet (fail)
  go_wp2
  go_ret
  have M' : Lb ((w.drewN k).setCell ⟨b, 1, none⟩ (.int .i64 ((n : Int) + 1))) b #[.string s, .int .i64 ((n + 1 : Nat) : Int), .int .i64 0, .int .i64 p] 127 := by
    have := (hb.drewN k).set 1 (.int .i64 ((n : Int) + 1))
    simpa using this
  exact ⟨rfl, Rr.new_ok M' hn, (((Oth.refl b w).drewN k).setCell _ _).drewN _⟩

/-- take. -/
theorem take_any (b : Nat) (s : ByteArray) (st : Option Nat) (ul uh : UInt8) (lo hi : Int) (hlo : lo = ul.toNat) (hhi : hi = uh.toNat) (w : World) (h : Rr w b s st) (hz : s.size ≤ 4096) :
    Calls Tryz.prog 43 #[.pointer (some ⟨b, 0, none⟩), .int .u8 lo, .int .u8 hi] w fun e w' => e = .returned (.int .u8 (tk s.data.toList st ul uh).1.toNat) ∧ Rr w' b s (tk s.data.toList st ul uh).2 ∧ Oth b w w' := by
  cases hx : nx s.data.toList st ul uh with
  | false =>
    rw [tk_no hx]
    exact take_no b s st ul uh lo hi hlo hhi w h hz hx
  | true =>
    obtain ⟨n, c, rfl, hg, ht⟩ := tk_yes hx
    rw [ht]
    obtain ⟨n', e, p, hb, hn', h1, h2⟩ := h
    subst h1
    subst h2
    have hn : n' < s.size := by
      have := (List.getElem?_eq_some_iff.1 hg).1
      simpa using this
    have hc : s[n']'hn = c := by
      rw [get_byte hn] at hg; injection hg
    exact take_yes b n' s ul uh lo hi p _ hlo hhi w hb hz hn (by rw [hc]) hx
end Go.Proofs.YthbiiccblcoogaaGreatDoor

/- oxbowref19's reader: word. -/
namespace Go.Proofs.YthbiiccblcoogaaGreatDoor
open Go.RowKit

/-- Where 'word' leaves the reader. -/
def wd (l : List UInt8) : Option Nat → List UInt8 → Option Nat
  | st, [] => st
  | st, c :: ws => wd l (tk l st c c).2 ws
theorem wd_none {l : List UInt8} : ∀ {ws : List UInt8}, wd l none ws = none
  | [] => rfl
  | _ :: _ => by rw [wd]; exact wd_none
theorem wd_some {l : List UInt8} : ∀ {ws : List UInt8} {n : Nat}, wd l (some n) ws = Pat.word l ws n
  | [], n => rfl
  | c :: ws, n => by
    rw [wd, Pat.word]
    unfold tk
    simp only
    rcases Pat.one l c c n with _ | ⟨x, q⟩
    · exact wd_none
    · exact wd_some

set_option maxHeartbeats 800000 in
set_option maxRecDepth 100000 in
theorem rword_any (b : Nat) (s ws : ByteArray) (st : Option Nat) (w : World) (h : Rr w b s st) (hz : s.size ≤ 4096) (hw : ws.size ≤ 4096) :
    Calls Tryz.prog 40 #[.pointer (some ⟨b, 0, none⟩), .string ws] w fun e w' => e = .returned (.tuple #[]) ∧ Rr w' b s (wd s.data.toList st ws.data.toList) ∧ Oth b w w' := by
  go_enter Tryz.func40, Tryz.ntmps40
  go_wp2
  go_loopw [4] (fun v4 wr => ∃ (k : Nat) (st' : Option Nat), k ≤ ws.size ∧ v4 = .int .i64 k ∧ Rr wr b s st' ∧ Oth b w wr ∧ wd s.data.toList st' (ws.data.toList.drop k) = wd s.data.toList st ws.data.toList) (fun v4 _ => ws.size - (intOf v4).toNat)
  case atStart => exact ⟨0, st, Nat.zero_le _, rfl, h, Oth.refl b w, by rw [List.drop_zero]⟩
  case round =>
    obtain ⟨k, st', hk, rfl, hrd, ho, hh⟩ := hrel
    have HH := Lib.hid hh
    clear hh h
    by_cases hlt : k < ws.size
    · have hd := Lib.hid (drop_at hlt)
      go_wp2
      go_still_tail 7, mix
      change wpList _ _ _ _ _ wr.drew
      go_wp2_with (go_at_call 43; refine (take_any b s st' (ws[k]'hlt) (ws[k]'hlt) _ _ rfl rfl _ (by exact hrd) hz).mono ?_; rintro e w1 ⟨rfl, hrd1, ho1⟩)
      go_roundw
      case rel => exact ⟨k + 1, _, by omega, by go_num, hrd1, ho.trans ho1.undrew, by rw [← HH.out, hd.out, wd]⟩
      case measure => simp [intOf]; omega
    · have hk0 : k = ws.size := by omega
      go_wp2
      go_end0
      refine ⟨rfl, ?_, ho⟩
      rw [← HH.out, List.drop_of_length_le (by simp; omega), wd]
      exact hrd
end Go.Proofs.YthbiiccblcoogaaGreatDoor

/- oxbowref19's reader: number. -/
namespace Go.Proofs.YthbiiccblcoogaaGreatDoor
open Go.RowKit

/-- What 'number' gives. -/
def nm (l : List UInt8) (st : Option Nat) (ul : UInt8) : Int × Option Nat :=
  match st with
  | none => (0, none)
  | some n => match Pat.number l ul n with | none => (0, none) | some (v, q) => (v, some q)

theorem nm_eq (l : List UInt8) (st : Option Nat) (ul : UInt8) : nm l st ul =
    match tk l st ul 57 with
    | (_, none) => (0, none)
    | (c, some q) => if c = 48 then (0, some q) else ((Pat.digits l 8 ((c.toNat : Int) - 48) q).1, some (Pat.digits l 8 ((c.toNat : Int) - 48) q).2) := by
  cases st with
  | none => rfl
  | some n =>
    unfold nm tk
    simp only [Pat.number]
    rcases Pat.one l ul 57 n with _ | ⟨c, q⟩
    · rfl
    · simp only
      by_cases h : c = 48
      · rw [if_pos h, if_pos h]
      · rw [if_neg h, if_neg h]

set_option maxHeartbeats 1600000 in
theorem rnum_bad (b : Nat) (s : ByteArray) (st : Option Nat) (ul : UInt8) (least : Int) (el : least = ul.toNat) (w : World) (h : Rr w b s st) (hz : s.size ≤ 4096) (c : UInt8) (ht : tk s.data.toList st ul 57 = (c, none)) :
    Calls Tryz.prog 45 #[.pointer (some ⟨b, 0, none⟩), .int .u8 least] w fun e w' => e = .returned (.int .i64 0) ∧ Rr w' b s none ∧ Oth b w w' := by
  have HT := Lib.hid ht
  have EL := Lib.hid el
  clear ht el
  go_enter Tryz.func45, Tryz.ntmps45
  go_wp2_with fail
  refine (take_any b s st ul 57 least 57 EL.out rfl _ (by exact h) hz).mono ?_
  rw [HT.out]
  rintro e w1 ⟨rfl, hrd1, ho1⟩
  have hrr := hrd1
  obtain ⟨n, e, p, hb, hn, he⟩ := hrd1
  simp only at he
  have h0 : (e == 0) = false := beq_eq_false_iff_ne.2 he
  have h1 : (e != 0) = true := by simp [bne, h0]
  have c2 := hb.cell 2 _ rfl
  clear he
  go_wp2
  go_ret
  exact ⟨rfl, hrr, ho1⟩

set_option maxHeartbeats 1600000 in
theorem rnum_zero (b q : Nat) (s : ByteArray) (st : Option Nat) (ul : UInt8) (least : Int) (el : least = ul.toNat) (w : World) (h : Rr w b s st) (hz : s.size ≤ 4096) (ht : tk s.data.toList st ul 57 = (48, some q)) :
    Calls Tryz.prog 45 #[.pointer (some ⟨b, 0, none⟩), .int .u8 least] w fun e w' => e = .returned (.int .i64 0) ∧ Rr w' b s (some q) ∧ Oth b w w' := by
  have HT := Lib.hid ht
  have EL := Lib.hid el
  clear ht el
  go_enter Tryz.func45, Tryz.ntmps45
  go_wp2_with fail
  refine (take_any b s st ul 57 least 57 EL.out rfl _ (by exact h) hz).mono ?_
  rw [HT.out]
  rintro e w1 ⟨rfl, hrd1, ho1⟩
  have hrr := hrd1
  obtain ⟨n, e, p, hb, hn, he, hq⟩ := hrd1
  subst he
  have c2 := hb.cell 2 _ rfl
  clear hq
  go_wp2
  go_ret
  exact ⟨rfl, hrr, ho1⟩
end Go.Proofs.YthbiiccblcoogaaGreatDoor
