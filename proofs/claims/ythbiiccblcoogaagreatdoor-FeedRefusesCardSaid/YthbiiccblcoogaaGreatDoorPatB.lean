/- The program's reader of patterns: one, has, word, number, op, in the words of the plain language. -/
import Derived.Test.YthbiiccblcoogaaGreatDoorPatA
set_option linter.unusedVariables false
set_option linter.unusedSimpArgs false
namespace Go.Proofs.YthbiiccblcoogaaGreatDoor
open Go.RowKit

theorem get_byte {s : ByteArray} {n : Nat} (hn : n < s.size) : s.data.toList[n]? = some (s[n]'hn) := by
  rw [List.getElem?_eq_getElem (by simpa using hn)]; rfl
theorem get_none {s : ByteArray} {n : Nat} (hn : ¬ n < s.size) : s.data.toList[n]? = none := by
  rw [List.getElem?_eq_none_iff]; simp; exact Nat.not_lt.1 hn

theorem one_any (b n : Nat) (s : ByteArray) (lo hi : Int) (ul uh : UInt8) (w : World) (h : Rd w b s n) (hz : s.size ≤ 4096) (hn : n ≤ s.size) (el : lo = ul.toNat) (eh : hi = uh.toNat) :
    Calls Tryz.prog 333 #[.pointer (some ⟨b, 0, none⟩), .int .u8 lo, .int .u8 hi] w (PR b s w (fun c : UInt8 => .int .u8 c.toNat) (Pat.one s.data.toList ul uh n)) := by
  subst el; subst eh
  by_cases hlt : n < s.size
  · have hg := get_byte hlt
    by_cases h1 : ul ≤ s[n]'hlt
    · by_cases h2 : s[n]'hlt ≤ uh
      · refine (one_in b n s _ _ _ w h hz hlt rfl (by have := UInt8.le_iff_toNat_le.1 h1; omega) (by have := UInt8.le_iff_toNat_le.1 h2; omega)).mono ?_
        intro e w' hh
        simp only [PR, Pat.one, hg, h1, h2, and_self, if_true]
        exact hh
      · refine (one_high b n s _ _ _ w h hz hlt rfl (by have := UInt8.le_iff_toNat_le.1 h1; omega) (by have := mt UInt8.le_iff_toNat_le.2 h2; omega)).mono ?_
        intro e w' hh
        simp only [PR, Pat.one, hg, h2, and_false, if_false]
        exact hh
    · refine (one_low b n s _ _ _ w h hz hlt rfl (by have := mt UInt8.le_iff_toNat_le.2 h1; omega)).mono ?_
      intro e w' hh
      simp only [PR, Pat.one, hg, h1, false_and, if_false]
      exact hh
  · refine (one_end b n s _ _ w h hz (by omega)).mono ?_
    intro e w' hh
    simp only [PR, Pat.one, get_none hlt]
    exact hh

theorem PR.of_some {α : Type} {f : FuncId} {args : Array Value} {b : Nat} {s : ByteArray} {w : World} {enc : α → Value} {r : Option (α × Nat)} {v : α} {q : Nat}
    (h : Calls Tryz.prog f args w (PR b s w enc r)) (hr : r = some (v, q)) : Calls Tryz.prog f args w fun e w' => e = .returned (enc v) ∧ Rd w' b s q ∧ Oth b w w' := by
  subst hr; exact h
theorem PR.of_none {α : Type} {f : FuncId} {args : Array Value} {b : Nat} {s : ByteArray} {w : World} {enc : α → Value} {r : Option (α × Nat)}
    (h : Calls Tryz.prog f args w (PR b s w enc r)) (hr : r = none) : Calls Tryz.prog f args w fun e w' => Fault e ∧ Oth b w w' := by
  subst hr; exact h
theorem PR.some_of {α : Type} {f : FuncId} {args : Array Value} {b : Nat} {s : ByteArray} {w : World} {enc : α → Value} {r : Option (α × Nat)} {v : α} {q : Nat}
    (hr : r = some (v, q)) (h : Calls Tryz.prog f args w fun e w' => e = .returned (enc v) ∧ Rd w' b s q ∧ Oth b w w') : Calls Tryz.prog f args w (PR b s w enc r) := by
  subst hr; exact h
theorem PR.none_of {α : Type} {f : FuncId} {args : Array Value} {b : Nat} {s : ByteArray} {w : World} {enc : α → Value} {r : Option (α × Nat)}
    (hr : r = none) (h : Calls Tryz.prog f args w fun e w' => Fault e ∧ Oth b w w') : Calls Tryz.prog f args w (PR b s w enc r) := by
  subst hr; exact h

theorem one_pos {l : List UInt8} {lo hi c : UInt8} {n q : Nat} (h : Pat.one l lo hi n = some (c, q)) : q = n + 1 ∧ n < l.length ∧ l[n]? = some c ∧ lo ≤ c ∧ c ≤ hi := by
  unfold Pat.one at h
  split at h
  · rename_i b hb
    split at h
    · rename_i hc
      simp only [Option.some.injEq, Prod.mk.injEq] at h
      obtain ⟨rfl, rfl⟩ := h
      have := List.getElem?_eq_some_iff.1 hb
      exact ⟨rfl, this.1, hb, hc.1, hc.2⟩
    · cases h
  · cases h

set_option maxHeartbeats 400000 in
theorem has_yes (b n : Nat) (s : ByteArray) (c : Int) (w : World) (h : Rd w b s n) (hz : s.size ≤ 4096) (hn : n < s.size) (hc : ((s[n]'hn).toNat : Int) = c) :
    Calls Tryz.prog 253 #[.pointer (some ⟨b, 0, none⟩), .int .u8 c] w fun e w' => e = .returned (.bool true) ∧ Rd w' b s (n + 1) ∧ Oth b w w' := by
  have HR := h
  obtain ⟨hs, ha, hf, hb⟩ := h
  have hne : ((n : Int) == (s.size : Int)) = false := by rw [beq_eq_false_iff_ne]; omega
  have d1 : (c != c) = false := by simp
  have HC := Lib.hid hc
  clear hc
  go_enter Tryz.func253, Tryz.ntmps253
  go_wp2
  go_quiet ((go_at_call 334; exact Calls.quiet_of (peek_in b n s _ (by exact hs) (by exact ha) hz hn c HC.out)))
  go_wp2
  go_ret
  exact ⟨rfl, (HR.drewN _).set' _ _ (by simp), ((Oth.refl b w).drewN _).setCell _ _⟩

set_option maxHeartbeats 400000 in
theorem has_no (b n : Nat) (s : ByteArray) (c d : Int) (w : World) (h : Rd w b s n) (hz : s.size ≤ 4096) (hn : n < s.size) (hc : ((s[n]'hn).toNat : Int) = c) (hd : c ≠ d) :
    Calls Tryz.prog 253 #[.pointer (some ⟨b, 0, none⟩), .int .u8 d] w fun e w' => e = .returned (.bool false) ∧ Rd w' b s n ∧ Oth b w w' := by
  have HR := h
  obtain ⟨hs, ha, hf, hb⟩ := h
  have hne : ((n : Int) == (s.size : Int)) = false := by rw [beq_eq_false_iff_ne]; omega
  have d1 : (c != d) = true := by simpa using hd
  have HC := Lib.hid hc
  clear hc
  go_enter Tryz.func253, Tryz.ntmps253
  go_wp2
  go_quiet ((go_at_call 334; exact Calls.quiet_of (peek_in b n s _ (by exact hs) (by exact ha) hz hn c HC.out)))
  go_wp2
  go_ret
  exact ⟨rfl, HR.drewN _, (Oth.refl b w).drewN _⟩

set_option maxHeartbeats 400000 in
theorem has_end (b n : Nat) (s : ByteArray) (d : Int) (w : World) (h : Rd w b s n) (hz : s.size ≤ 4096) (hn : n = s.size) :
    Calls Tryz.prog 253 #[.pointer (some ⟨b, 0, none⟩), .int .u8 d] w fun e w' => e = .returned (.bool false) ∧ Rd w' b s n ∧ Oth b w w' := by
  have HR := h
  obtain ⟨hs, ha, hf, hb⟩ := h
  subst hn
  go_enter Tryz.func253, Tryz.ntmps253
  go_wp2
  go_quiet (fail)
  go_wp2
  go_ret
  exact ⟨rfl, HR.drewN _, (Oth.refl b w).drewN _⟩

/-- has: the byte, if it is the next one. -/
def HasP (b : Nat) (s : ByteArray) (w : World) (n : Nat) (r : Bool) (e : Ending) (w' : World) : Prop :=
  e = .returned (.bool r) ∧ Rd w' b s (if r then n + 1 else n) ∧ Oth b w w'

theorem has_any (b n : Nat) (s : ByteArray) (d : Int) (ud : UInt8) (w : World) (h : Rd w b s n) (hz : s.size ≤ 4096) (hn : n ≤ s.size) (ed : d = ud.toNat) :
    Calls Tryz.prog 253 #[.pointer (some ⟨b, 0, none⟩), .int .u8 d] w (HasP b s w n (Pat.isB s.data.toList ud ud n)) := by
  subst ed
  by_cases hlt : n < s.size
  · have hg := get_byte hlt
    by_cases h1 : s[n]'hlt = ud
    · refine (has_yes b n s _ w h hz hlt (by rw [h1])).mono ?_
      intro e w' hh
      simp only [HasP, Pat.isB, hg, h1]
      simpa using hh
    · have h2 : ¬ (ud ≤ s[n]'hlt ∧ s[n]'hlt ≤ ud) := fun hc => h1 (UInt8.le_antisymm hc.2 hc.1)
      refine (has_no b n s _ ud.toNat w h hz hlt rfl (fun hc => h1 (UInt8.toNat_inj.1 (by omega)))).mono ?_
      intro e w' hh
      simp only [HasP, Pat.isB, hg, h2]
      simpa using hh
  · refine (has_end b n s _ w h hz (by omega)).mono ?_
    intro e w' hh
    simp only [HasP, Pat.isB, get_none hlt]
    simpa using hh

theorem isB_lt {l : List UInt8} {lo hi : UInt8} {n : Nat} (h : Pat.isB l lo hi n = true) : n < l.length := by
  unfold Pat.isB at h
  split at h
  · rename_i b hb; exact (List.getElem?_eq_some_iff.1 hb).1
  · cases h

/-- What a call that hands nothing back comes to. -/
def PW (b : Nat) (s : ByteArray) (w : World) (r : Option Nat) (e : Ending) (w' : World) : Prop :=
  match r with
  | some q => e = .returned (.tuple #[]) ∧ Rd w' b s q ∧ Oth b w w'
  | none => Fault e ∧ Oth b w w'

theorem PW.none_mk {b : Nat} {s : ByteArray} {w w' : World} {r : Option Nat} {e : Ending} (hr : r = none) (hf : Fault e) (ho : Oth b w w') : PW b s w r e w' := by
  subst hr; exact ⟨hf, ho⟩
theorem PW.some_mk {b q : Nat} {s : ByteArray} {w w' : World} {r : Option Nat} (hr : r = some q) (hf : Rd w' b s q) (ho : Oth b w w') : PW b s w r (.returned (.tuple #[])) w' := by
  subst hr; exact ⟨rfl, hf, ho⟩

theorem drop_at {ws : ByteArray} {k : Nat} (hk : k < ws.size) : ws.data.toList.drop k = ws[k]'hk :: ws.data.toList.drop (k + 1) := by
  rw [List.drop_eq_getElem_cons (by simpa using hk)]; rfl

set_option maxHeartbeats 400000 in
set_option maxRecDepth 100000 in
theorem word_any (b n : Nat) (s ws : ByteArray) (w : World) (h : Rd w b s n) (hz : s.size ≤ 4096) (hw : ws.size ≤ 4096) (hn : n ≤ s.size) :
    Calls Tryz.prog 251 #[.pointer (some ⟨b, 0, none⟩), .string ws] w (PW b s w (Pat.word s.data.toList ws.data.toList n)) := by
  go_enter Tryz.func251, Tryz.ntmps251
  go_wp2
  go_loopw [7] (fun v7 wr => ∃ k p : Nat, k ≤ ws.size ∧ p ≤ s.size ∧ v7 = .int .i64 k ∧ Rd wr b s p ∧ Oth b w wr ∧ Pat.word s.data.toList (ws.data.toList.drop k) p = Pat.word s.data.toList ws.data.toList n) (fun v7 _ => ws.size - (intOf v7).toNat)
  case atStart => exact ⟨0, n, Nat.zero_le _, hn, rfl, h, Oth.refl b w, by rw [List.drop_zero]⟩
  case round =>
    obtain ⟨k, p, hk, hp, rfl, hrd, ho, hh⟩ := hrel
    have HH := Lib.hid hh
    clear hh h
    by_cases hlt : k < ws.size
    · have hd := Lib.hid (drop_at hlt)
      rcases hx : Pat.one s.data.toList (ws[k]'hlt) (ws[k]'hlt) p with _ | ⟨c, q⟩
      · have HX := Lib.hid hx
        clear hx
        go_wp2
        go_still_tail 7, mix
        change wpList _ _ _ _ _ wr.drew
        go_wp2_with (go_at_call 333; refine (PR.of_none (one_any b p s _ _ (ws[k]'hlt) (ws[k]'hlt) _ (by exact hrd.drew) hz hp rfl rfl) HX.out).mono ?_; rintro e w1 ⟨⟨a, c, rfl, hb⟩, ho1⟩)
        exact ⟨rfl, PW.none_mk (by rw [← HH.out, hd.out, Pat.word, HX.out]) ⟨_, _, rfl, hb⟩ (ho.trans ho1.undrew)⟩
      · have HX := Lib.hid hx
        have hq := one_pos hx
        have hq1 : q = p + 1 := hq.1
        have hq2 : p + 1 ≤ s.size := Nat.succ_le_of_lt (by have := hq.2.1; simpa using this)
        subst hq1
        clear hx hq
        go_wp2
        go_still_tail 7, mix
        change wpList _ _ _ _ _ wr.drew
        go_wp2_with (go_at_call 333; refine (PR.of_some (one_any b p s _ _ (ws[k]'hlt) (ws[k]'hlt) _ (by exact hrd.drew) hz hp rfl rfl) HX.out).mono ?_; rintro e w1 ⟨rfl, hrd1, ho1⟩)
        go_roundw
        case rel => exact ⟨k + 1, p + 1, by omega, hq2, by go_num, hrd1, ho.trans ho1.undrew, by rw [← HH.out, hd.out, Pat.word, HX.out]⟩
        case measure => simp [intOf]; omega
    · have hk0 : k = ws.size := by omega
      go_wp2
      go_end0
      refine PW.some_mk ?_ hrd ho
      rw [← HH.out, List.drop_of_length_le (by simp; omega), Pat.word]
end Go.Proofs.YthbiiccblcoogaaGreatDoor
