/- The tied card of FeedRefuses. -/
import Derived.Test.YthbiiccblcoogaaGreatDoorProof
import Derived.Test.YthbiiccblcoogaaGreatDoorFacts
import Derived.Test.YthbiiccblcoogaaGreatDoorTie
import Derived.Test.YthbiiccblcoogaaGreatDoorCards
import Derived.SevenTiedAt
import Derived.JoinedOf
set_option linter.unusedVariables false
set_option linter.unusedSimpArgs false
namespace Go.Proofs.YthbiiccblcoogaaGreatDoor
open Go

theorem none_goes : Tryz.prog.funcs.any Func.goes = false := by kernel_rfl
theorem goes_not (f : FuncId) : Tryz.prog.goes f = false := by
  unfold Program.goes
  rw [none_goes, Bool.and_false, Bool.or_false, List.any_eq_false]
  intro g _
  cases h : Tryz.prog.funcs[g]? with
  | none => simp
  | some fn =>
    have hm : fn ∈ Tryz.prog.funcs := Array.mem_of_getElem? h
    have := (Array.any_eq_false'.1 none_goes) fn hm
    simpa using this
theorem named3 : Tryz.prog.funcNamed "oxbow/oxbowlaw23.FeedRefuses" = some 3 := by kernel_rfl
theorem instance3 : Tryz.f3.isInstance Tryz.prog Rows.feedRefusesRow.origin Rows.feedRefusesRow.targs := of_decide_eq_true (by kernel_rfl)
theorem wrapper3 : Tryz.f3.isWrapper Tryz.prog Rows.feedRefusesRow.wrapper Rows.feedRefusesRow.mainSum := by
  unfold Func.isWrapper
  first | (rw [if_pos (by decide +kernel)]; kernel_rfl) | (rw [if_neg (by decide +kernel)]; exact ⟨rfl, rfl⟩)

theorem feedRefuses_holds : Rows.FeedRefusesSaid :=
  OpenClaim.holds_of_wide 3 Tryz.f3 rfl rfl rfl rfl rfl rfl rfl ⟨rfl, rfl, rfl, rfl, rfl⟩ rfl rfl rfl rfl rfl named3 Tryz.func3 facts instance3 wrapper3
    (fun os started H enc _ => lifted os started H enc)
#print axioms feedRefuses_holds

theorem text_fits : Rows.feedRefusesRow.wfByText (OpenSpec.ofChange Rows.feedRefusesSpec) = true := by kernel_rfl
theorem main_is : Tryz.pinned.checked.prog.mainIs = some (true, "7a1c37b8576236fc96e17e6fe14f5271373321d7131bf73dcbe67b1549b8a8bd".toList) := by kernel_rfl
theorem looks_true : true = Tryz.prog.looks [] := by kernel_rfl
theorem stand9 : Tryz.prog.wantsStandIn 9 = false := by kernel_rfl
theorem stand22 : Tryz.prog.wantsStandIn 22 = false := by kernel_rfl
theorem stand25 : Tryz.prog.wantsStandIn 25 = false := by kernel_rfl
theorem goes_by : false = Rows.feedRefusesRow.goesBy Tryz.pinned.checked.prog := by
  show false = (Tryz.prog.goesFrom "oxbow/oxbowlaw23.FeedRefuses" || false)
  unfold Program.goesFrom
  rw [named3]
  simp [goes_not]

theorem card_holds : Rows.FeedRefusesCardSaid :=
  Claim7.holds_tied_plain_at .later [] [.data, .data, .data, .data, .sentinel, .sentinel, .pinned] true (true, "7a1c37b8576236fc96e17e6fe14f5271373321d7131bf73dcbe67b1549b8a8bd") true
    feedRefuses_holds (fun _ h => by cases h) text_fits (fun _ h => by cases h) feedRefuses_row_tie rfl ⟨rfl, rfl⟩ main_is rfl
    (fun f fn hf hfn => by
      obtain rfl : f = 3 := (Option.some.inj (named3.symm.trans hf)).symm
      obtain rfl : fn = Tryz.f3 := (Option.some.inj (Tryz.func3.symm.trans hfn)).symm
      refine ⟨looks_true, fun j t ht => ?_⟩
      have ht' : (#[9, 22, 25] : Array TypeId)[j]? = some t := by rw [← Tryz.params3]; exact ht
      rcases j with _ | _ | _ | j
      · obtain rfl : (9 : Nat) = t := by simpa using ht'
        exact stand9
      · obtain rfl : (22 : Nat) = t := by simpa using ht'
        exact stand22
      · obtain rfl : (25 : Nat) = t := by simpa using ht'
        exact stand25
      · simp at ht')
    goes_by
#print axioms card_holds
end Go.Proofs.YthbiiccblcoogaaGreatDoor
