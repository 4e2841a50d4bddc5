/- The given statement TermOtherSaid: the law TermOther returns true for any screen and any runes. No condition. -/
import Derived.Test.YtadginombcjbeaaT22
import Derived.Test.YtadginombcjbeaaVf
import Derived.Test.YtadginombcjbeaaRows
namespace Go.Proofs.Ytadginombcjbeaa
open Go.RowKit Go.Vc Go.ChangeShapes Go.WideShapes
set_option linter.unusedVariables false
theorem slv_slc {w : World} {v : Value} {l : List Int} (h : SlV w v (row l)) : SlC (At w) 1 v l.length (row l) := by have := h.slc; rwa [row_len] at this
theorem own : ownKnob Try.prog.godebug = none := by kernel_rfl
theorem laidOut : laidOutB Try.prog = true := by kernel_rfl
set_option maxRecDepth 100000 in
theorem lifted (os : Os) (started : os.Started) (H : Type) (enc : TypeId × Value → H) :
  ReturnsInHanded {} Try.checked os 5 .any (Rows.termOtherSpec.pre6 enc Try.prog Try.f5 Rows.termOtherRow.domain false) (Rows.termOtherSpec.post enc Try.prog Try.f5 false true false false) := by
 refine law_lifted (C := Try.checked) (bt := 4) own started (by kernel_rfl) Try.func5 laidOut rfl (by kernel_rfl) Try.underlying4 (by kernel_rfl) rfl ?_
  (ChangeSpec.witness6 (enc := enc) (C := Try.checked) false ⟨#[], #[(.agg [Value.int .i64 0, .int .i64 0, .slice none 0 0, .int .i64 0, .int .i64 0, .int .i64 0, .int .i64 0, .int .i64 0, .bool false, .bool false, .bool false, .bool false, .int .i64 0, .int .i64 0, .int .i64 0, .slice none 0 0].toArray), (.slice none 0 0)], []⟩ 12 (by kernel_rfl) (by kernel_rfl) (by kernel_rfl) (by kernel_rfl)) ?_
 ·intro ds h
  rw [Try.params5] at h
  obtain _ | ⟨d0, _ | ⟨d1, _ | ⟨d2, ds⟩⟩⟩ := ds <;> first | rfl | simp at h
 ·intro W base args ds p hval hA _
  rw [Try.params5] at hA hval
  obtain ⟨v0, vs0, d0, ds0, p0, q0, hargs, rfl, rfl, h0, r0⟩ := trodAll_cons hA
  obtain ⟨v1, vs1, d1, ds1, p1, q1, rfl, rfl, rfl, h1, r1⟩ := trodAll_cons r0
  obtain ⟨rfl, rfl, rfl⟩ := trodAll_nil r1
  obtain rfl : args = #[v0, v1] := by cases args; simp_all
  obtain ⟨s0, cs0, rfl, hs0, hm0, hn0⟩ := open_screen (hval 0 32 v0 rfl rfl) h0
  obtain ⟨l1, hs1, hb1, hm1⟩ := open_slice_bytes Try.underlying35 Try.underlying5 (by kernel_rfl) (hval 1 35 v1 rfl rfl) h1
  exact (termother_any s0 cs0 l1 v1 W hs0 hm0 hn0 (slv_slc hs1) hb1 hm1).calls
theorem over : Rows.termOtherRow.holds Try.pinned (OpenSpec.ofChange Rows.termOtherSpec) :=
 OpenClaim.holds_of_wide 5 Try.f5 rfl rfl rfl rfl rfl rfl rfl ⟨rfl, rfl, rfl, rfl, rfl⟩ rfl rfl rfl rfl rfl (by kernel_rfl) Try.func5 (by kernel_rfl)
  (of_decide_eq_true (by kernel_rfl)) (by unfold Func.isWrapper; first | (rw [if_pos (by decide +kernel)]; kernel_rfl) | (rw [if_neg (by decide +kernel)]; exact ⟨rfl, rfl⟩))
  (fun os started H enc _ => lifted os started H enc)
theorem termOther_holds : Rows.TermOtherSaid := over
#print axioms termOther_holds
end Go.Proofs.Ytadginombcjbeaa
