/- The given statement FrameAsksSaid: the law FrameAsks returns true for any frame and any number. No condition. -/
import Derived.Test.YtphpmallnlajjaaF27
import Derived.Test.YtphpmallnlajjaaVf
import Derived.Test.YtphpmallnlajjaaRows
namespace Go.Proofs.Ytphpmallnlajjaa
open Go.RowKit Go.Vc Go.ChangeShapes Go.WideShapes
set_option linter.unusedVariables false
theorem own : ownKnob Try.prog.godebug = none := by kernel_rfl
theorem laidOut : laidOutB Try.prog = true := by kernel_rfl
set_option maxRecDepth 100000 in
theorem lifted (os : Os) (started : os.Started) (H : Type) (enc : TypeId × Value → H) :
    ReturnsInHanded {} Try.checked os 9 .any (Rows.frameAsksSpec.pre6 enc Try.prog Try.f9 Rows.frameAsksRow.domain false) (Rows.frameAsksSpec.post enc Try.prog Try.f9 false true false false) := by
  refine law_lifted (C := Try.checked) (bt := 4) own started (by kernel_rfl) Try.func9 laidOut rfl (by kernel_rfl) Try.underlying4 (by kernel_rfl) rfl ?_
    (ChangeSpec.witness6 (enc := enc) (C := Try.checked) false ⟨#[], #[(.agg [Value.int .i64 0, .int .i64 0, .int .i64 0, .slice none 0 0, .slice none 0 0].toArray), (.int .u16 0)], []⟩ 12 (by kernel_rfl) (by kernel_rfl) (by kernel_rfl) (by kernel_rfl)) ?_
  · intro ds h
    rw [Try.params9] at h
    obtain _ | ⟨d0, _ | ⟨d1, _ | ⟨d2, ds⟩⟩⟩ := ds <;> first | rfl | simp at h
  · intro W base args ds p hval hA _
    rw [Try.params9] at hA hval
    obtain ⟨v0, vs0, d0, ds0, p0, q0, hargs, rfl, rfl, h0, r0⟩ := trodAll_cons hA
    obtain ⟨v1, vs1, d1, ds1, p1, q1, rfl, rfl, rfl, h1, r1⟩ := trodAll_cons r0
    obtain ⟨rfl, rfl, rfl⟩ := trodAll_nil r1
    obtain rfl : args = #[v0, v1] := by cases args; simp_all
    obtain ⟨f0, cs0, rfl, hf0, hg0⟩ := open_frame (hval 0 33 v0 rfl rfl) h0
    obtain ⟨a1, rfl, rfl, rfl, w1⟩ := open_int Try.underlying40 (hval 1 40 v1 rfl rfl) h1
    exact (frameasks_any f0 cs0 a1 W hf0 hg0.2.1 hg0.2.2 (wf_u16 w1)).calls
theorem over : Rows.frameAsksRow.holds Try.pinned (OpenSpec.ofChange Rows.frameAsksSpec) :=
  OpenClaim.holds_of_wide 9 Try.f9 rfl rfl rfl rfl rfl rfl rfl ⟨rfl, rfl, rfl, rfl, rfl⟩ rfl rfl rfl rfl rfl (by kernel_rfl) Try.func9 (by kernel_rfl)
    (of_decide_eq_true (by kernel_rfl)) (by unfold Func.isWrapper; first | (rw [if_pos (by decide +kernel)]; kernel_rfl) | (rw [if_neg (by decide +kernel)]; exact ⟨rfl, rfl⟩))
    (fun os started H enc _ => lifted os started H enc)
theorem frameAsks_holds : Rows.FrameAsksSaid := over
#print axioms frameAsks_holds
end Go.Proofs.Ytphpmallnlajjaa
