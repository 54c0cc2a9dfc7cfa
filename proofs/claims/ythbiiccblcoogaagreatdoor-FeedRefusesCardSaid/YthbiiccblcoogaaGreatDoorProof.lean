/- The row: FeedRefuses answers true, whatever the input, and its input reads as it did. -/
import Derived.Test.YthbiiccblcoogaaGreatDoorLawH
import Derived.Test.YthbiiccblcoogaaGreatDoorRowB
import Derived.Test.YthbiiccblcoogaaGreatDoorRowC
import Derived.Test.YthbiiccblcoogaaGreatDoorRowD
import Derived.Carry
import Derived.OpenShut
import Derived.JoinedOf
import Derived.RowKit
import Derived.Stop.Joined
set_option linter.unusedVariables false
set_option linter.unusedSimpArgs false
namespace Go.Proofs.YthbiiccblcoogaaGreatDoor
open Go.ChangeShapes Go.WideShapes Go.ChangeMaps Go.RowKit

theorem own : ownKnob Tryz.prog.godebug = none := by kernel_rfl
theorem laidOut : laidOutB Tryz.prog = true := by kernel_rfl
theorem i64_of {n : Int} (h : (Lit.int .i64 n).wf = true) : I64 n := ⟨(wf_bounds h).1, (wf_bounds h).2⟩

set_option maxRecDepth 100000 in
theorem lifted (os : Os) (started : os.Started) (H : Type) (enc : TypeId × Value → H) :
    ReturnsInHanded {} Tryz.checked os 3 .any (fun w args => (Rows.feedRefusesSpec.pre enc Tryz.prog Tryz.f3 [] false w args ∧ laidMetH Tryz.prog Rows.feedRefusesRow.laid w) ∧ sizedMet enc Tryz.prog Tryz.f3 (OpenSpec.ofChange Rows.feedRefusesSpec) false w args)
      (Rows.feedRefusesSpec.post enc Tryz.prog Tryz.f3 false true false false) := by
  refine handed_shaped (C := Tryz.checked) (X := fun w _ => laidMetH Tryz.prog Rows.feedRefusesRow.laid w) (fun _ _ _ hh h => h.of_heap hh) own started (by kernel_rfl) Tryz.func3 (witness enc os) ?_
  intro W base args ds gs before hval0 hW hsz0 hL hsh
  have hval : ∀ (j : Nat) t v, Tryz.f3.params[j]? = some t → args[j]? = some v → Value.okWide Tryz.prog W .any base t v := hval0
  have hsz : (DataW.weightsEach Tryz.prog (Tryz.f3.params.toList ++ Rows.feedRefusesSpec.plain.varTypes Tryz.prog) (ds ++ gs)).all (· ≤ reachBytes) = true := hsz0
  have hW' := hW
  obtain ⟨p, q, hA0, hV, rfl, _, _⟩ := hW
  have hA : DataW.TrodAll enc Tryz.prog W 0 (fun _ => true) true Tryz.f3.params.toList args.toList ds p := hA0
  rw [Tryz.params3] at hA hval hsz
  obtain ⟨v0, v1, v2, d0, d1, d2, p0, p1, p2, rfl, rfl, rfl, h0, h1, h2⟩ := trodAll_three hA
  obtain ⟨rfl, rfl⟩ := trodVars_none hV
  have k0 := h0
  have k1 := h1
  have k2 := h2
  obtain ⟨s, rfl, rfl, rfl, _⟩ := open_string Tryz.underlying9 (hval 0 9 _ rfl rfl) h0
  obtain ⟨g, n, cp, rfl, hn, hiv⟩ := open_events (hval 1 22 _ rfl rfl) h1
  obtain ⟨M, B, C, F, Z, Ba, Ra, q, k, kc, rfl, ⟨wM, wB, wC, wF⟩, hco, hw⟩ := open_mix (hval 2 25 _ rfl rfl) h2
  have hn32 : n * 32 ≤ 140737488355328 := by
    rcases hn with rfl | ⟨es, sp, rfl, hl⟩
    · omega
    · have := events_paid hsz (j := 1) rfl rfl
      omega
  have hcn : Cn W q k kc := by
    rcases hco with h | ⟨ad, zs, hq, h1, hz, hk, hc⟩
    · exact .inl h
    · refine .inr ⟨ad, zs, hq, h1, hz, hk, ?_, hc⟩
      rcases hw with h | ⟨e0, e1, e2, e3, e4, e5, e6, es, sp, rfl, hl⟩
      · omega
      · have := coins_paid hsz (j := 2) rfl rfl
        omega
  have hlt0 : ∀ x ∈ p1, x.block < W.heap.size := fun x hx => hW'.lt x (by simp [hx])
  have hlt2 : ∀ x ∈ p2, x.block < W.heap.size := fun x hx => hW'.lt x (by simp [hx])
  refine (law_any s g n cp M B C F Z Ba Ra q k kc W (glob_of hL hsh) hn32 hiv (i64_of wM) (i64_of wB) (i64_of wC) (i64_of wF) hcn).mono fun e W' ⟨he, hb⟩ => ?_
  subst he
  refine ⟨_, rfl, _, _, _, [], [] ++ (p1 ++ p2), [], hW', ?_, ?_, ?_, hb.frame _, fun h => by cases h⟩
  · exact trodAll_mk1 (shut_bool Tryz.underlying4 true)
  · exact trodAll_mk3 (Below.trod laidOut (by kernel_rfl) (of_decide_eq_true (by kernel_rfl)) k0 hb (fun _ h => by cases h)) (Below.trod laidOut (by kernel_rfl) (of_decide_eq_true (by kernel_rfl)) k1 hb hlt0) (Below.trod laidOut (by kernel_rfl) (of_decide_eq_true (by kernel_rfl)) k2 hb hlt2)
  · rfl

#print axioms lifted
end Go.Proofs.YthbiiccblcoogaaGreatDoor
