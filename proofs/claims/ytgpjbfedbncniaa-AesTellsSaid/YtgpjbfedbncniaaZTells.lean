/- The given statement AesTellsSaid: for every key and block of sixteen bytes the law AesTells returns true, and both read as they did. No condition. -/
import Derived.Test.YtgpjbfedbncniaaA13
import Derived.Test.YtgpjbfedbncniaaVf
import Derived.Test.YtgpjbfedbncniaaRows
namespace Go.Proofs.Ytgpjbfedbncniaa
open Go.RowKit Go.Vc Go.ChangeShapes Go.WideShapes
set_option linter.unusedVariables false
theorem own : ownKnob Try.prog.godebug = none := by kernel_rfl
theorem laidOut : laidOutB Try.prog = true := by kernel_rfl
set_option maxRecDepth 100000 in
theorem lifted (os : Os) (started : os.Started) (H : Type) (enc : TypeId × Value → H) :
    ReturnsInHanded {} Try.checked os 3 .any (Rows.aesTellsSpec.pre6 enc Try.prog Try.f3 Rows.aesTellsRow.domain false) (Rows.aesTellsSpec.post enc Try.prog Try.f3 false true false false) := by
  refine law_lifted (C := Try.checked) (bt := 4) own started (by kernel_rfl) Try.func3 laidOut rfl (by kernel_rfl) Try.underlying4 (by kernel_rfl) rfl ?_
    (ChangeSpec.witness6 (enc := enc) (C := Try.checked) false ⟨#[], #[(.agg (row (zeros 16)).toArray), (.agg (row (zeros 16)).toArray)], []⟩ 12 (by kernel_rfl) (by kernel_rfl) (by kernel_rfl) (by kernel_rfl)) ?_
  · intro ds h
    rw [Try.params3] at h
    obtain _ | ⟨d0, _ | ⟨d1, _ | ⟨d2, ds⟩⟩⟩ := ds <;> first | rfl | simp at h
  · intro W base args ds p hval hA _
    rw [Try.params3] at hA hval
    obtain ⟨v0, vs0, d0, ds0, p0, q0, hargs, rfl, rfl, h0, r0⟩ := trodAll_cons hA
    obtain ⟨v1, vs1, d1, ds1, p1, q1, rfl, rfl, rfl, h1, r1⟩ := trodAll_cons r0
    obtain ⟨rfl, rfl, rfl⟩ := trodAll_nil r1
    obtain rfl : args = #[v0, v1] := by cases args; simp_all
    obtain ⟨l0, rfl, hl0, hb0, _, _⟩ := open_bytes ⟨Try.underlying22, by kernel_rfl, by kernel_rfl, by kernel_rfl⟩ Try.underlying5 (hval 0 22 v0 rfl rfl) h0
    obtain ⟨l1, rfl, hl1, hb1, _, _⟩ := open_bytes ⟨Try.underlying22, by kernel_rfl, by kernel_rfl, by kernel_rfl⟩ Try.underlying5 (hval 1 22 v1 rfl rfl) h1
    exact (aestells_any l0 l1 W hl0 hb0 hl1 hb1).calls
theorem over : Rows.aesTellsRow.holds Try.pinned (OpenSpec.ofChange Rows.aesTellsSpec) :=
  OpenClaim.holds_of_wide 3 Try.f3 rfl rfl rfl rfl rfl rfl rfl ⟨rfl, rfl, rfl, rfl, rfl⟩ rfl rfl rfl rfl rfl (by kernel_rfl) Try.func3 (by kernel_rfl)
    (of_decide_eq_true (by kernel_rfl)) (by unfold Func.isWrapper; first | (rw [if_pos (by decide +kernel)]; kernel_rfl) | (rw [if_neg (by decide +kernel)]; exact ⟨rfl, rfl⟩))
    (fun os started H enc _ => lifted os started H enc)
theorem aesTells_holds : Rows.AesTellsSaid := over
#print axioms aesTells_holds
end Go.Proofs.Ytgpjbfedbncniaa
