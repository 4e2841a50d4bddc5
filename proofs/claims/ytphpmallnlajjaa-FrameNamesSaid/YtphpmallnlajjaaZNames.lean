/- The given statement FrameNamesSaid: the law FrameNames returns true. No condition. -/
import Derived.Test.YtphpmallnlajjaaF20
import Derived.Test.YtphpmallnlajjaaVf
import Derived.Test.YtphpmallnlajjaaRows
namespace Go.Proofs.Ytphpmallnlajjaa
open Go.RowKit Go.Vc Go.ChangeShapes Go.WideShapes
set_option linter.unusedVariables false
theorem own : ownKnob Try.prog.godebug = none := by kernel_rfl
theorem laidOut : laidOutB Try.prog = true := by kernel_rfl
set_option maxRecDepth 100000 in
theorem lifted (os : Os) (started : os.Started) (H : Type) (enc : TypeId × Value → H) :
    ReturnsInHanded {} Try.checked os 3 .any (Rows.frameNamesSpec.pre6 enc Try.prog Try.f3 Rows.frameNamesRow.domain false) (Rows.frameNamesSpec.post enc Try.prog Try.f3 false true false false) := by
  refine law_lifted (C := Try.checked) (bt := 4) own started (by kernel_rfl) Try.func3 laidOut rfl (by kernel_rfl) Try.underlying4 (by kernel_rfl) rfl ?_
    (ChangeSpec.witness6 (enc := enc) (C := Try.checked) false ⟨#[], #[], []⟩ 12 (by kernel_rfl) (by kernel_rfl) (by kernel_rfl) (by kernel_rfl)) ?_
  · intro ds h
    rw [Try.params3] at h
    obtain _ | ⟨d, ds⟩ := ds <;> first | rfl | simp at h
  · intro W base args ds p hval hA _
    rw [Try.params3] at hA hval
    obtain ⟨hargs, rfl, rfl⟩ := trodAll_nil hA
    obtain rfl : args = #[] := by cases args; simp_all
    exact (framenames_any W).calls
theorem over : Rows.frameNamesRow.holds Try.pinned (OpenSpec.ofChange Rows.frameNamesSpec) :=
  OpenClaim.holds_of_wide 3 Try.f3 rfl rfl rfl rfl rfl rfl rfl ⟨rfl, rfl, rfl, rfl, rfl⟩ rfl rfl rfl rfl rfl (by kernel_rfl) Try.func3 (by kernel_rfl)
    (of_decide_eq_true (by kernel_rfl)) (by unfold Func.isWrapper; first | (rw [if_pos (by decide +kernel)]; kernel_rfl) | (rw [if_neg (by decide +kernel)]; exact ⟨rfl, rfl⟩))
    (fun os started H enc _ => lifted os started H enc)
theorem frameNames_holds : Rows.FrameNamesSaid := over
#print axioms frameNames_holds
end Go.Proofs.Ytphpmallnlajjaa
