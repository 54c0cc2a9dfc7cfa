/- The program's reader of patterns: number, op. -/
import Derived.Test.YthbiiccblcoogaaGreatDoorPatB
set_option linter.unusedVariables false
set_option linter.unusedSimpArgs false
namespace Go.Proofs.YthbiiccblcoogaaGreatDoor
open Go.RowKit

theorem one_some (b n q : Nat) (s : ByteArray) (lo hi C : Int) (ul uh c : UInt8) (w : World) (h : Rd w b s n) (hz : s.size ≤ 4096) (hn : n ≤ s.size) (el : lo = ul.toNat) (eh : hi = uh.toNat)
    (hx : Pat.one s.data.toList ul uh n = some (c, q)) (hC : (c.toNat : Int) = C) :
    Calls Tryz.prog 333 #[.pointer (some ⟨b, 0, none⟩), .int .u8 lo, .int .u8 hi] w fun e w' => e = .returned (.int .u8 C) ∧ Rd w' b s q ∧ Oth b w w' := by
  subst hC; exact PR.of_some (enc := fun c : UInt8 => .int .u8 c.toNat) (one_any b n s lo hi ul uh w h hz hn el eh) hx
theorem one_none (b n : Nat) (s : ByteArray) (lo hi : Int) (ul uh : UInt8) (w : World) (h : Rd w b s n) (hz : s.size ≤ 4096) (hn : n ≤ s.size) (el : lo = ul.toNat) (eh : hi = uh.toNat)
    (hx : Pat.one s.data.toList ul uh n = none) :
    Calls Tryz.prog 333 #[.pointer (some ⟨b, 0, none⟩), .int .u8 lo, .int .u8 hi] w fun e w' => Fault e ∧ Oth b w w' :=
  PR.of_none (one_any b n s lo hi ul uh w h hz hn el eh) hx
theorem one_le {l : List UInt8} {lo hi c : UInt8} {n q : Nat} (h : Pat.one l lo hi n = some (c, q)) : q = n + 1 ∧ n + 1 ≤ l.length ∧ (lo.toNat : Int) ≤ c.toNat ∧ (c.toNat : Int) ≤ hi.toNat := by
  have := one_pos h
  have h1 := UInt8.le_iff_toNat_le.1 this.2.2.2.1
  have h2 := UInt8.le_iff_toNat_le.1 this.2.2.2.2
  exact ⟨this.1, this.2.1, by omega, by omega⟩

/-- What stands at a place, as peek tells it. -/
def pk (s : ByteArray) (n : Nat) : Int := if h : n < s.size then (s[n]'h).toNat else 0
theorem peek_any (b n : Nat) (s : ByteArray) (w : World) (h : Rd w b s n) (hz : s.size ≤ 4096) (hn : n ≤ s.size) (C : Int) (hC : pk s n = C) :
    Calls Tryz.prog 334 #[.pointer (some ⟨b, 0, none⟩)] w fun e w' => e = .returned (.int .u8 C) ∧ Dr w w' := by
  subst hC
  unfold pk
  by_cases hlt : n < s.size
  · rw [dif_pos hlt]; exact peek_in b n s w h.hs h.ha hz hlt _ rfl
  · obtain rfl : n = s.size := by omega
    rw [dif_neg hlt]; exact peek_end b s w h.hs h.ha hz
theorem pk_digit {s : ByteArray} {n : Nat} {c : UInt8} {q : Nat} (h : Pat.one s.data.toList 48 57 n = some (c, q)) : pk s n = c.toNat := by
  have hp := one_pos h
  have hlt : n < s.size := by simpa using hp.2.1
  unfold pk
  rw [dif_pos hlt]
  have := get_byte hlt
  rw [hp.2.2.1] at this
  rw [Option.some.inj this]
theorem pk_none {s : ByteArray} {n : Nat} (h : Pat.one s.data.toList 48 57 n = none) : pk s n < 48 ∨ 57 < pk s n := by
  unfold pk
  by_cases hlt : n < s.size
  · rw [dif_pos hlt]
    unfold Pat.one at h
    rw [get_byte hlt] at h
    simp only at h
    split at h
    · cases h
    · rename_i hc
      have h1 : ¬ (48 ≤ (s[n]'hlt).toNat ∧ (s[n]'hlt).toNat ≤ 57) := fun hh => hc ⟨UInt8.le_iff_toNat_le.2 hh.1, UInt8.le_iff_toNat_le.2 hh.2⟩
      omega
  · rw [dif_neg hlt]; omega

theorem pow_le (k : Nat) (hk : k ≤ 8) : (10 : Int) ^ (k + 1) ≤ 1000000000 := by
  have : ∀ k : Nat, k ≤ 8 → (10 : Int) ^ (k + 1) ≤ 1000000000 := by decide
  exact this k hk
theorem pow_next {k : Nat} {N d : Int} (h : N < 10 ^ (k + 1)) (hd : d ≤ 9) : 10 * N + d < 10 ^ (k + 1 + 1) := by
  rw [Int.pow_succ]; omega

theorem digits_stop {l : List UInt8} {k p : Nat} {N : Int} (h : Pat.one l 48 57 p = none) : Pat.digits l k N p = (N, p) := by
  cases k with
  | zero => rfl
  | succ k => simp only [Pat.digits, h]

set_option maxHeartbeats 1000000 in
theorem number_some (b n q : Nat) (s : ByteArray) (least : Int) (ul c : UInt8) (w : World) (h : Rd w b s n) (hz : s.size ≤ 4096) (hn : n ≤ s.size) (el : least = ul.toNat)
    (hx : Pat.one s.data.toList ul 57 n = some (c, q)) (h48 : 48 ≤ c.toNat) (R : Int × Nat) (hR : R = if c = 48 then (0, q) else Pat.digits s.data.toList 8 ((c.toNat : Int) - 48) q) :
    Calls Tryz.prog 255 #[.pointer (some ⟨b, 0, none⟩), .int .u8 least] w fun e w' => e = .returned (.int .i64 R.1) ∧ Rd w' b s R.2 ∧ R.2 ≤ s.size ∧ Oth b w w' := by
  have hp := one_le hx
  have hq1 : q ≤ s.size := by have := hp.2.1; rw [hp.1]; simpa using this
  have hc57 : (c.toNat : Int) ≤ 57 := hp.2.2.2
  have HX := Lib.hid hx
  have HE := Lib.hid el
  obtain ⟨C, hC⟩ : ∃ C : Int, (c.toNat : Int) = C := ⟨_, rfl⟩
  have hC48 : 48 ≤ C := by omega
  have hC57 : C ≤ 57 := by omega
  have hstart : (C - 48 = 0 ∧ R = (0, q)) ∨ (0 < C - 48 ∧ Pat.digits s.data.toList (8 - 0) (C - 48) q = R) := by
    by_cases h0 : c = 48
    · subst h0; left; exact ⟨by rw [← hC]; rfl, by rw [hR, if_pos rfl]⟩
    · right
      have : C ≠ 48 := fun hh => h0 (UInt8.toNat_inj.1 (by rw [show (48 : UInt8).toNat = 48 from rfl]; omega))
      exact ⟨by omega, by rw [hR, if_neg h0, hC]⟩
  have HS := Lib.hid hstart
  have HCC := Lib.hid hC
  clear hstart hC hR hx el hp h48 hc57
  go_enter Tryz.func255, Tryz.ntmps255
  go_wp2_with (go_at_call 333; refine (one_some b n q s least 57 C ul 57 c _ (by exact h) hz hn HE.out rfl HX.out HCC.out).mono ?_; rintro e w1 ⟨rfl, hrd1, ho1⟩)
  go_loopw [5, 6] (fun v5 v6 wr => ∃ (k p : Nat) (N : Int), k ≤ 8 ∧ p ≤ s.size ∧ 0 ≤ N ∧ N < 10 ^ (k + 1) ∧ v5 = .int .i64 N ∧ v6 = .int .i64 ((k : Int) + 1) ∧ Rd wr b s p ∧ Oth b w wr ∧ ((N = 0 ∧ R = (0, p)) ∨ (0 < N ∧ Pat.digits s.data.toList (8 - k) N p = R))) (fun _ v6 _ => 20 - (intOf v6).toNat)
  case atStart => exact ⟨0, q, C - 48, by omega, hq1, by omega, by rw [Int.pow_succ]; omega, rfl, by go_num, hrd1, ho1, HS.out⟩
  case round =>
    obtain ⟨k, p, N, hk, hp, hN0, hNk, rfl, rfl, hrd, ho, hres⟩ := hrel
    have hNb : N < 1000000000 := Int.lt_of_lt_of_le hNk (pow_le k hk)
    rcases hres with ⟨rfl, hres⟩ | ⟨hpos, hres⟩
    · have HRS := Lib.hid hres
      clear hres hNk
      go_wp2
      go_ret
      exact ⟨by rw [HRS.out]; rfl, by rw [HRS.out]; exact hrd, by rw [HRS.out]; exact hp, ho⟩
    · by_cases h8 : k = 8
      · subst h8
        have HRS := Lib.hid hres
        clear hres hNk
        go_wp2
        go_ret
        exact ⟨by rw [← HRS.out]; rfl, by rw [← HRS.out]; exact hrd, by rw [← HRS.out]; exact hp, ho⟩
      · have hk8 : (k : Int) + 1 < 9 := by omega
        rcases hx1 : Pat.one s.data.toList 48 57 p with _ | ⟨c1, q1⟩
        · have hst := digits_stop (k := 8 - k) (N := N) hx1
          have HRS := Lib.hid (hst.symm.trans hres)
          obtain ⟨D, hD⟩ : ∃ D : Int, pk s p = D := ⟨_, rfl⟩
          have hDD := pk_none hx1
          rw [hD] at hDD
          have HD := Lib.hid hD
          clear hx1 hst hres hD hNk
          rcases hDD with hlo | hhi
          · go_wp2_with (go_at_call 334; refine (peek_any b p s _ (by exact hrd) hz hp D HD.out).mono ?_; rintro e w1 ⟨rfl, n1, rfl⟩)
            go_ret
            exact ⟨by rw [← HRS.out]; rfl, by rw [← HRS.out]; exact hrd.drewN _, by rw [← HRS.out]; exact hp, ho.drewN _⟩
          · have h48 : 48 ≤ D := by omega
            go_wp2_with (go_at_call 334; refine (peek_any b p s _ (by first | exact hrd | exact hrd.drewN _) hz hp D HD.out).mono ?_; rintro e w1 ⟨rfl, n1, rfl⟩)
            go_ret
            exact ⟨by rw [← HRS.out]; rfl, by rw [← HRS.out]; exact hrd.drewN _, by rw [← HRS.out]; exact hp, ho.drewN _⟩
        · have hp1 := one_le hx1
          have hD := pk_digit hx1
          have hq1' : q1 ≤ s.size := by have := hp1.2.1; rw [hp1.1]; simpa using this
          obtain ⟨D, hDe⟩ : ∃ D : Int, (c1.toNat : Int) = D := ⟨_, rfl⟩
          rw [hDe] at hD
          have hD48 : 48 ≤ D := by rw [← hDe]; exact hp1.2.2.1
          have hD57 : D ≤ 57 := by rw [← hDe]; exact hp1.2.2.2
          have hdig : Pat.digits s.data.toList (8 - k) N p = Pat.digits s.data.toList (8 - (k + 1)) (10 * N + (D - 48)) q1 := by
            rw [show 8 - k = (8 - (k + 1)) + 1 from by omega, Pat.digits, hx1, ← hDe]
          have HRS := Lib.hid (hdig.symm.trans hres)
          have HNK := Lib.hid (pow_next hNk (show D - 48 ≤ 9 by omega))
          have HD := Lib.hid hD
          have HDE := Lib.hid hDe
          have HX1 := Lib.hid hx1
          clear hx1 hdig hres hD hDe hp1 hNk
          go_wp2_with (first | (go_at_call 334; refine (peek_any b p s _ (by first | exact hrd | exact hrd.drewN _) hz hp D HD.out).mono ?_; rintro e w1 ⟨rfl, n1, rfl⟩) | (go_at_call 333; refine (one_some b p q1 s 48 57 D 48 57 c1 _ (by exact hrd.drewN _) hz hp rfl rfl HX1.out HDE.out).mono ?_; rintro e w2 ⟨rfl, hrd2, ho2⟩))
          go_roundw
          case rel => exact ⟨k + 1, q1, 10 * N + (D - 48), by omega, hq1', by omega, HNK.out, by go_num, by go_num, hrd2, ho.trans ho2.undrewN, .inr ⟨by omega, HRS.out⟩⟩
          case measure => simp [intOf]; omega
end Go.Proofs.YthbiiccblcoogaaGreatDoor

/- The program's reader of patterns: number, op, word by the length of its text; bounds on places. -/
namespace Go.Proofs.YthbiiccblcoogaaGreatDoor
open Go.RowKit

set_option maxHeartbeats 400000 in
theorem number_none (b n : Nat) (s : ByteArray) (least : Int) (ul : UInt8) (w : World) (h : Rd w b s n) (hz : s.size ≤ 4096) (hn : n ≤ s.size) (el : least = ul.toNat)
    (hx : Pat.one s.data.toList ul 57 n = none) :
    Calls Tryz.prog 255 #[.pointer (some ⟨b, 0, none⟩), .int .u8 least] w fun e w' => Fault e ∧ Oth b w w' := by
  have HX := Lib.hid hx
  have HE := Lib.hid el
  clear hx el
  go_enter Tryz.func255, Tryz.ntmps255
  go_wp2_with (go_at_call 333; refine (one_none b n s least 57 ul 57 _ (by exact h) hz hn HE.out rfl HX.out).mono ?_; rintro e w1 ⟨⟨a, c, rfl, hb⟩, ho1⟩)
  exact ⟨rfl, ⟨_, _, rfl, hb⟩, ho1⟩

theorem digits_bd {l : List UInt8} : ∀ (k : Nat) (N : Int) (p : Nat), 0 ≤ N → p ≤ l.length → 0 ≤ (Pat.digits l k N p).1 ∧ (Pat.digits l k N p).1 < (N + 1) * 10 ^ k ∧ (Pat.digits l k N p).2 ≤ l.length
  | 0, N, p, h, hp => ⟨h, by simp [Pat.digits]; omega, hp⟩
  | k + 1, N, p, h, hp => by
    unfold Pat.digits
    cases hx : Pat.one l 48 57 p with
    | none =>
      refine ⟨h, ?_, hp⟩
      have h1 : (1 : Int) ≤ 10 ^ (k + 1) := by have := Int.pow_pos (n := 10) (m := k + 1) (by decide); omega
      have h2 : (N + 1) * 1 ≤ (N + 1) * 10 ^ (k + 1) := Int.mul_le_mul_of_nonneg_left h1 (by omega)
      simp only
      omega
    | some x =>
      obtain ⟨c, q⟩ := x
      have hl := one_le hx
      have h48 : (48 : Int) ≤ c.toNat := hl.2.2.1
      have h57 : (c.toNat : Int) ≤ 57 := hl.2.2.2
      have ih := digits_bd k (10 * N + ((c.toNat : Int) - 48)) q (by omega) (by rw [hl.1]; exact hl.2.1)
      refine ⟨ih.1, ?_, ih.2.2⟩
      have h0 : (0 : Int) ≤ 10 ^ k := by have := Int.pow_pos (n := 10) (m := k) (by decide); omega
      have h2 : (10 * N + ((c.toNat : Int) - 48) + 1) * 10 ^ k ≤ ((N + 1) * 10) * 10 ^ k := Int.mul_le_mul_of_nonneg_right (by omega) h0
      have h3 : ((N + 1) * 10) * (10 : Int) ^ k = (N + 1) * 10 ^ (k + 1) := by rw [Int.pow_succ, Int.mul_assoc, Int.mul_comm 10]
      have := ih.2.1
      simp only
      omega

theorem number_bd {l : List UInt8} {ul : UInt8} {n q : Nat} {v : Int} (hul : 48 ≤ ul.toNat) (h : Pat.number l ul n = some (v, q)) : 0 ≤ v ∧ v < 1000000000 ∧ q ≤ l.length := by
  unfold Pat.number at h
  cases hx : Pat.one l ul 57 n with
  | none => rw [hx] at h; cases h
  | some x =>
    obtain ⟨c, q1⟩ := x
    rw [hx] at h
    have hl := one_le hx
    have h57 : (c.toNat : Int) ≤ 57 := hl.2.2.2
    have h48 : (48 : Int) ≤ c.toNat := by have := hl.2.2.1; omega
    simp only at h
    split at h
    · simp only [Option.some.injEq, Prod.mk.injEq] at h
      obtain ⟨rfl, rfl⟩ := h
      exact ⟨by omega, by omega, by rw [hl.1]; exact hl.2.1⟩
    · have hd := digits_bd (l := l) 8 ((c.toNat : Int) - 48) q1 (by omega) (by rw [hl.1]; exact hl.2.1)
      simp only [Option.some.injEq] at h
      rw [h] at hd
      have h1 : ((c.toNat : Int) - 48 + 1) * 10 ^ 8 ≤ 10 * 10 ^ 8 := Int.mul_le_mul_of_nonneg_right (by omega) (by decide)
      exact ⟨hd.1, by have := hd.2.1; omega, hd.2.2⟩

theorem number_any (b n : Nat) (s : ByteArray) (least : Int) (ul : UInt8) (w : World) (h : Rd w b s n) (hz : s.size ≤ 4096) (hn : n ≤ s.size) (el : least = ul.toNat) (hul : 48 ≤ ul.toNat) :
    Calls Tryz.prog 255 #[.pointer (some ⟨b, 0, none⟩), .int .u8 least] w (PR b s w (Value.int .i64) (Pat.number s.data.toList ul n)) := by
  cases hx : Pat.one s.data.toList ul 57 n with
  | none => exact PR.none_of (by unfold Pat.number; rw [hx]) (number_none b n s least ul w h hz hn el hx)
  | some x =>
    obtain ⟨c, q⟩ := x
    have h48 : 48 ≤ c.toNat := by have := (one_le hx).2.2.1; omega
    refine (number_some b n q s least ul c w h hz hn el hx h48 _ rfl).mono ?_
    intro e w' hh
    unfold PR Pat.number
    rw [hx]
    by_cases h0 : c = 48
    · simp only [h0, if_true] at hh ⊢; exact ⟨hh.1, hh.2.1, hh.2.2.2⟩
    · simp only [h0, if_false] at hh ⊢; exact ⟨hh.1, hh.2.1, hh.2.2.2⟩

theorem HasP.of {b n : Nat} {s : ByteArray} {w : World} {f : FuncId} {args : Array Value} {r : Bool} {m : Nat} (h : Calls Tryz.prog f args w (HasP b s w n r)) (t : Bool) (hr : r = t) (hm : (if t then n + 1 else n) = m) :
    Calls Tryz.prog f args w fun e w' => e = .returned (.bool t) ∧ Rd w' b s m ∧ Oth b w w' := by
  subst hr; subst hm; exact h
theorem has_is (b n m : Nat) (s : ByteArray) (d : Int) (ud : UInt8) (t : Bool) (w : World) (h : Rd w b s n) (hz : s.size ≤ 4096) (hn : n ≤ s.size) (ed : d = ud.toNat) (hr : Pat.isB s.data.toList ud ud n = t) (hm : (if t then n + 1 else n) = m) :
    Calls Tryz.prog 253 #[.pointer (some ⟨b, 0, none⟩), .int .u8 d] w fun e w' => e = .returned (.bool t) ∧ Rd w' b s m ∧ Oth b w w' :=
  HasP.of (has_any b n s d ud w h hz hn ed) t hr hm

theorem isB_le {s : ByteArray} {lo hi : UInt8} {n : Nat} (h : Pat.isB s.data.toList lo hi n = true) : n + 1 ≤ s.size := by
  have := isB_lt h; exact Nat.succ_le_of_lt (by simpa using this)
theorem word_one {l : List UInt8} {c : UInt8} {n : Nat} : Pat.word l [c] n = (Pat.one l c c n).map Prod.snd := by
  unfold Pat.word Pat.word
  cases Pat.one l c c n with
  | none => rfl
  | some x => obtain ⟨a, q⟩ := x; rfl
theorem one_sz {s : ByteArray} {lo hi c : UInt8} {n q : Nat} (h : Pat.one s.data.toList lo hi n = some (c, q)) : q ≤ s.size := by
  have := one_le h; rw [this.1]; simpa using this.2.1
theorem word_sz {s : ByteArray} : ∀ {ws : List UInt8} {n q : Nat}, n ≤ s.size → Pat.word s.data.toList ws n = some q → q ≤ s.size
  | [], n, q, hn, h => by simp only [Pat.word, Option.some.injEq] at h; omega
  | c :: ws, n, q, hn, h => by
    unfold Pat.word at h
    cases hx : Pat.one s.data.toList c c n with
    | none => rw [hx] at h; cases h
    | some x => obtain ⟨a, p⟩ := x; rw [hx] at h; exact word_sz (one_sz hx) h
theorem word_some (b n q : Nat) (s ws : ByteArray) (w : World) (h : Rd w b s n) (hz : s.size ≤ 4096) (hw : ws.size ≤ 4096) (hn : n ≤ s.size) (hx : Pat.word s.data.toList ws.data.toList n = some q) :
    Calls Tryz.prog 251 #[.pointer (some ⟨b, 0, none⟩), .string ws] w fun e w' => e = .returned (.tuple #[]) ∧ Rd w' b s q ∧ Oth b w w' := by
  have := word_any b n s ws w h hz hw hn; rw [hx] at this; exact this
theorem word_none (b n : Nat) (s ws : ByteArray) (w : World) (h : Rd w b s n) (hz : s.size ≤ 4096) (hw : ws.size ≤ 4096) (hn : n ≤ s.size) (hx : Pat.word s.data.toList ws.data.toList n = none) :
    Calls Tryz.prog 251 #[.pointer (some ⟨b, 0, none⟩), .string ws] w fun e w' => Fault e ∧ Oth b w w' := by
  have := word_any b n s ws w h hz hw hn; rw [hx] at this; exact this
end Go.Proofs.YthbiiccblcoogaaGreatDoor
