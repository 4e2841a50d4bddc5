/- The given statement SealSizesSaid: the law SealSizes returns true for any keys and any packet. No condition. -/
import Derived.Test.YthieegnhjoehbaaS19
import Derived.Test.YthieegnhjoehbaaVf
import Derived.Test.YthieegnhjoehbaaRows
namespace Go.Proofs.Ythieegnhjoehbaa
open Go.RowKit Go.Vc Go.ChangeShapes Go.WideShapes
set_option linter.unusedVariables false
theorem own : ownKnob Try.prog.godebug = none := by kernel_rfl
theorem laidOut : laidOutB Try.prog = true := by kernel_rfl
set_option maxRecDepth 100000 in
theorem lifted (os : Os) (started : os.Started) (H : Type) (enc : TypeId × Value → H) :
  ReturnsInHanded {} Try.checked os 7 .any (Rows.sealSizesSpec.pre6 enc Try.prog Try.f7 Rows.sealSizesRow.domain false) (Rows.sealSizesSpec.post enc Try.prog Try.f7 false true false false) := by
 refine law_lifted (C := Try.checked) (bt := 4) own started (by kernel_rfl) Try.func7 laidOut rfl (by kernel_rfl) Try.underlying4 (by kernel_rfl) rfl ?_
  (ChangeSpec.witness6 (enc := enc) (C := Try.checked) false ⟨#[], #[(.agg (row (zeros 96)).toArray), (.agg [Value.int .i64 0, .int .i64 0, .slice none 0 0].toArray)], []⟩ 12 (by kernel_rfl) (by kernel_rfl) (by kernel_rfl) (by kernel_rfl)) ?_
 ·intro ds h
  rw [Try.params7] at h
  obtain _ | ⟨d0, _ | ⟨d1, _ | ⟨d2, ds⟩⟩⟩ := ds <;> first | rfl | simp at h
 ·intro W base args ds p hval hA _
  rw [Try.params7] at hA hval
  obtain ⟨v0, vs0, d0, ds0, p0, q0, hargs, rfl, rfl, h0, r0⟩ := trodAll_cons hA
  obtain ⟨v1, vs1, d1, ds1, p1, q1, rfl, rfl, rfl, h1, r1⟩ := trodAll_cons r0
  obtain ⟨rfl, rfl, rfl⟩ := trodAll_nil r1
  obtain rfl : args = #[v0, v1] := by cases args; simp_all
  obtain ⟨K0, rfl, hl0, hb0⟩ := open_keys (hval 0 33 v0 rfl rfl) h0
  obtain ⟨p1, cs1, rfl, hf1, hg1, hm1⟩ := open_packet (hval 1 25 v1 rfl rfl) h1
  exact (sealsizes_any K0 p1 cs1 W hl0 hb0 hf1 (fun f hf => (hg1 f hf).2.1) hm1).calls
theorem over : Rows.sealSizesRow.holds Try.pinned (OpenSpec.ofChange Rows.sealSizesSpec) :=
 OpenClaim.holds_of_wide 7 Try.f7 rfl rfl rfl rfl rfl rfl rfl ⟨rfl, rfl, rfl, rfl, rfl⟩ rfl rfl rfl rfl rfl (by kernel_rfl) Try.func7 (by kernel_rfl)
  (of_decide_eq_true (by kernel_rfl)) (by unfold Func.isWrapper; first | (rw [if_pos (by decide +kernel)]; kernel_rfl) | (rw [if_neg (by decide +kernel)]; exact ⟨rfl, rfl⟩))
  (fun os started H enc _ => lifted os started H enc)
theorem sealSizes_holds : Rows.SealSizesSaid := over
#print axioms sealSizes_holds
end Go.Proofs.Ythieegnhjoehbaa
