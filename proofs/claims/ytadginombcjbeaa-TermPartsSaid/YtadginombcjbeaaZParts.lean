/- The given statement TermPartsSaid: the law TermParts returns true for any terminal, any bytes and any cut. No condition. -/
import Derived.Test.YtadginombcjbeaaT24
import Derived.Test.YtadginombcjbeaaVf
import Derived.Test.YtadginombcjbeaaRows
namespace Go.Proofs.Ytadginombcjbeaa
open Go.RowKit Go.Vc Go.ChangeShapes Go.WideShapes
set_option linter.unusedVariables false
theorem slv_slc {w : World} {v : Value} {l : List Int} (h : SlV w v (row l)) : SlC (At w) 1 v l.length (row l) := by have := h.slc; rwa [row_len] at this
theorem own : ownKnob Try.prog.godebug = none := by kernel_rfl
theorem laidOut : laidOutB Try.prog = true := by kernel_rfl
set_option maxRecDepth 100000 in
theorem lifted (os : Os) (started : os.Started) (H : Type) (enc : TypeId × Value → H) :
  ReturnsInHanded {} Try.checked os 4 .any (Rows.termPartsSpec.pre6 enc Try.prog Try.f4 Rows.termPartsRow.domain false) (Rows.termPartsSpec.post enc Try.prog Try.f4 false true false false) := by
 refine law_lifted (C := Try.checked) (bt := 4) own started (by kernel_rfl) Try.func4 laidOut rfl (by kernel_rfl) Try.underlying4 (by kernel_rfl) rfl ?_
  (ChangeSpec.witness6 (enc := enc) (C := Try.checked) false ⟨#[], #[(.agg [Value.int .i64 0, .int .i64 0, .int .i64 0, .int .i64 0, .int .i64 0, .int .i64 0, .bool false, .int .i64 0, .int .i64 0, .int .i64 0, .int .i64 0, .int .i64 0, .int .i64 0, .int .i64 0, .int .i64 0, .int .i64 0, .int .i64 0, .int .i64 0, .slice none 0 0, .int .i64 0, .int .i64 0, .int .i64 0, .int .i64 0, .int .i64 0, .bool false, .bool false, .bool false, .bool false, .int .i64 0, .int .i64 0, .int .i64 0, .slice none 0 0].toArray), (.slice none 0 0), (.int .u16 0)], []⟩ 12 (by kernel_rfl) (by kernel_rfl) (by kernel_rfl) (by kernel_rfl)) ?_
 ·intro ds h
  rw [Try.params4] at h
  obtain _ | ⟨d0, _ | ⟨d1, _ | ⟨d2, _ | ⟨d3, ds⟩⟩⟩⟩ := ds <;> first | rfl | simp at h
 ·intro W base args ds p hval hA _
  rw [Try.params4] at hA hval
  obtain ⟨v0, vs0, d0, ds0, p0, q0, hargs, rfl, rfl, h0, r0⟩ := trodAll_cons hA
  obtain ⟨v1, vs1, d1, ds1, p1, q1, rfl, rfl, rfl, h1, r1⟩ := trodAll_cons r0
  obtain ⟨v2, vs2, d2, ds2, p2, q2, rfl, rfl, rfl, h2, r2⟩ := trodAll_cons r1
  obtain ⟨rfl, rfl, rfl⟩ := trodAll_nil r2
  obtain rfl : args = #[v0, v1, v2] := by cases args; simp_all
  obtain ⟨t0, cs0, rfl, hs0, hm0, hn0, he0⟩ := open_term (hval 0 34 v0 rfl rfl) h0
  obtain ⟨l1, hs1, hb1, hm1⟩ := open_slice_bytes Try.underlying35 Try.underlying5 (by kernel_rfl) (hval 1 35 v1 rfl rfl) h1
  obtain ⟨a2, rfl, rfl, rfl, w2⟩ := open_int Try.underlying43 (hval 2 43 v2 rfl rfl) h2
  exact (termparts_any t0 cs0 l1 a2 v1 W hs0 hm0 hn0 he0 (slv_slc hs1) hm1 (wf_u16 w2)).calls
theorem over : Rows.termPartsRow.holds Try.pinned (OpenSpec.ofChange Rows.termPartsSpec) :=
 OpenClaim.holds_of_wide 4 Try.f4 rfl rfl rfl rfl rfl rfl rfl ⟨rfl, rfl, rfl, rfl, rfl⟩ rfl rfl rfl rfl rfl (by kernel_rfl) Try.func4 (by kernel_rfl)
  (of_decide_eq_true (by kernel_rfl)) (by unfold Func.isWrapper; first | (rw [if_pos (by decide +kernel)]; kernel_rfl) | (rw [if_neg (by decide +kernel)]; exact ⟨rfl, rfl⟩))
  (fun os started H enc _ => lifted os started H enc)
theorem termParts_holds : Rows.TermPartsSaid := over
#print axioms termParts_holds
end Go.Proofs.Ytadginombcjbeaa
