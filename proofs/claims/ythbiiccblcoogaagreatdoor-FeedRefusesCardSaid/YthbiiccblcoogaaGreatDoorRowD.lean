/- The row's witness: a world in which what the row lists is laid. -/
import Derived.Test.YthbiiccblcoogaaGreatDoorRows
import Derived.Lay
import Derived.MakeChecks
import Derived.LaidLaws
set_option linter.unusedVariables false
set_option linter.unusedSimpArgs false
namespace Go.Proofs.YthbiiccblcoogaaGreatDoor

noncomputable def start (os : Os) : World := World.laidAll Tryz.prog os Rows.feedRefusesRow.laid
def nought : Array Value := #[.string ⟨#[]⟩, .slice none 0 0, .agg #[.int .i64 0, .int .i64 0, .int .i64 0, .int .i64 0, .int .i64 0, .int .i64 0, .int .i64 0, .slice none 0 0]]

set_option maxRecDepth 100000 in
theorem start_shaped (os : Os) : ((start os).forCall (fun _ _ => 0) ⟨#[], nought, []⟩).Shaped Tryz.prog := World.shaped_of_ZipB (by kernel_rfl) (by kernel_rfl)
set_option maxRecDepth 100000 in
theorem start_met (os : Os) : laidMetH Tryz.prog Rows.feedRefusesRow.laid ((start os).forCall (fun _ _ => 0) ⟨#[], nought, []⟩).memory := by
  rw [MakeChecks.laidMetH_plain _ _ _ (by kernel_rfl)]
  exact laidMet_laidAll _ (by kernel_rfl) (by kernel_rfl)
set_option maxRecDepth 100000 in
theorem start_fits (os : Os) : Input.okWideB Tryz.prog ((start os).forCall (fun _ _ => 0) ⟨#[], nought, []⟩) 3 ⟨#[], nought, []⟩ = true := by kernel_rfl
set_option maxRecDepth 100000 in
theorem start_pre {H : Type} (enc : TypeId × Value → H) (os : Os) : Rows.feedRefusesSpec.preB enc Tryz.prog Tryz.f3 [] false ((start os).forCall (fun _ _ => 0) ⟨#[], nought, []⟩).memory nought 8 = true := by kernel_rfl
set_option maxRecDepth 100000 in
theorem start_sized {H : Type} (enc : TypeId × Value → H) (os : Os) : Rows.feedRefusesSpec.sizedB enc Tryz.prog Tryz.f3 false ((start os).forCall (fun _ _ => 0) ⟨#[], nought, []⟩).memory nought 8 = true := by kernel_rfl

theorem witness {H : Type} (enc : TypeId × Value → H) (os : Os) :
    ∃ (w : World) (tape : Tape) (i : Input), w.os = os ∧ (w.forCall tape i).Shaped Tryz.checked.prog ∧ i.vars = [] ∧ Input.okWide Tryz.checked.prog (w.forCall tape i) .any w.heap.size 3 i ∧
      ((Rows.feedRefusesSpec.pre enc Tryz.checked.prog Tryz.f3 [] false (w.forCall tape i).memory i.args ∧ laidMetH Tryz.prog Rows.feedRefusesRow.laid (w.forCall tape i).memory) ∧ sizedMet enc Tryz.checked.prog Tryz.f3 (OpenSpec.ofChange Rows.feedRefusesSpec) false (w.forCall tape i).memory i.args) ∧
      ({} : Assume).holds Tryz.checked.prog (lone (Frame.enter Tryz.checked.prog 3 i.args .normal) [] (w.forCall tape i)) :=
  ChangeSpec.witness_shaped (enc := enc) (C := Tryz.checked) (os := os) (X := fun w _ => laidMetH Tryz.prog Rows.feedRefusesRow.laid w) false (start os) nought 8 (World.laidAll_os _ _ _) (start_shaped os) (start_fits os) (start_pre enc os) (start_sized enc os) (start_met os)
#print axioms witness
end Go.Proofs.YthbiiccblcoogaaGreatDoor
