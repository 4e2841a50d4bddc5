/- The given statement FrameCutsSaid: the law FrameCuts returns true for any frames and any cut. No condition. -/
import Derived.Test.YtphpmallnlajjaaF26
import Derived.Test.YtphpmallnlajjaaVf
import Derived.Test.YtphpmallnlajjaaRows
namespace Go.Proofs.Ytphpmallnlajjaa
open Go.RowKit Go.Vc Go.ChangeShapes Go.WideShapes
set_option linter.unusedVariables false
theorem own : ownKnob Try.prog.godebug = none := by kernel_rfl
theorem laidOut : laidOutB Try.prog = true := by kernel_rfl
set_option maxRecDepth 100000 in
theorem lifted (os : Os) (started : os.Started) (H : Type) (enc : TypeId × Value → H) :
    ReturnsInHanded {} Try.checked os 10 .any (Rows.frameCutsSpec.pre6 enc Try.prog Try.f10 Rows.frameCutsRow.domain false) (Rows.frameCutsSpec.post enc Try.prog Try.f10 false true false false) := by
  refine law_lifted (C := Try.checked) (bt := 4) own started (by kernel_rfl) Try.func10 laidOut rfl (by kernel_rfl) Try.underlying4 (by kernel_rfl) rfl ?_
    (ChangeSpec.witness6 (enc := enc) (C := Try.checked) false ⟨#[], #[(.slice none 0 0), (.int .u16 0)], []⟩ 12 (by kernel_rfl) (by kernel_rfl) (by kernel_rfl) (by kernel_rfl)) ?_
  · intro ds h
    rw [Try.params10] at h
    obtain _ | ⟨d0, _ | ⟨d1, _ | ⟨d2, ds⟩⟩⟩ := ds <;> first | rfl | simp at h
  · intro W base args ds p hval hA _
    rw [Try.params10] at hA hval
    obtain ⟨v0, vs0, d0, ds0, p0, q0, hargs, rfl, rfl, h0, r0⟩ := trodAll_cons hA
    obtain ⟨v1, vs1, d1, ds1, p1, q1, rfl, rfl, rfl, h1, r1⟩ := trodAll_cons r0
    obtain ⟨rfl, rfl, rfl⟩ := trodAll_nil r1
    obtain rfl : args = #[v0, v1] := by cases args; simp_all
    obtain ⟨fs0, hf0, hg0, hm0⟩ := open_frames (hval 0 23 v0 rfl rfl) h0
    obtain ⟨a1, rfl, rfl, rfl, w1⟩ := open_int Try.underlying40 (hval 1 40 v1 rfl rfl) h1
    exact (framecuts_any fs0 v0 a1 W hf0 (fun f hf => (hg0 f hf).1) (fun f hf => (hg0 f hf).2.1) (wf_u16 w1)).calls
theorem over : Rows.frameCutsRow.holds Try.pinned (OpenSpec.ofChange Rows.frameCutsSpec) :=
  OpenClaim.holds_of_wide 10 Try.f10 rfl rfl rfl rfl rfl rfl rfl ⟨rfl, rfl, rfl, rfl, rfl⟩ rfl rfl rfl rfl rfl (by kernel_rfl) Try.func10 (by kernel_rfl)
    (of_decide_eq_true (by kernel_rfl)) (by unfold Func.isWrapper; first | (rw [if_pos (by decide +kernel)]; kernel_rfl) | (rw [if_neg (by decide +kernel)]; exact ⟨rfl, rfl⟩))
    (fun os started H enc _ => lifted os started H enc)
theorem frameCuts_holds : Rows.FrameCutsSaid := over
#print axioms frameCuts_holds
end Go.Proofs.Ytphpmallnlajjaa
