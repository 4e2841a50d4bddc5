/- The given statement SealTagsSaid: the law SealTags returns true for any keys, any side, any bytes, any place and any byte. No condition. -/
import Derived.Test.YthieegnhjoehbaaS22
import Derived.Test.YthieegnhjoehbaaVf
import Derived.Test.YthieegnhjoehbaaRows
namespace Go.Proofs.Ythieegnhjoehbaa
open Go.RowKit Go.Vc Go.ChangeShapes Go.WideShapes
set_option linter.unusedVariables false
theorem slv_slc {w : World} {v : Value} {l : List Int} (h : SlV w v (row l)) : SlC (At w) 1 v l.length (row l) := by have := h.slc; rwa [row_len] at this
theorem own : ownKnob Try.prog.godebug = none := by kernel_rfl
theorem laidOut : laidOutB Try.prog = true := by kernel_rfl
set_option maxRecDepth 100000 in
theorem lifted (os : Os) (started : os.Started) (H : Type) (enc : TypeId × Value → H) :
  ReturnsInHanded {} Try.checked os 6 .any (Rows.sealTagsSpec.pre6 enc Try.prog Try.f6 Rows.sealTagsRow.domain false) (Rows.sealTagsSpec.post enc Try.prog Try.f6 false true false false) := by
 refine law_lifted (C := Try.checked) (bt := 4) own started (by kernel_rfl) Try.func6 laidOut rfl (by kernel_rfl) Try.underlying4 (by kernel_rfl) rfl ?_
  (ChangeSpec.witness6 (enc := enc) (C := Try.checked) false ⟨#[], #[(.agg (row (zeros 96)).toArray), (.int .i64 0), (.slice none 0 0), (.int .u8 0), (.int .u8 0)], []⟩ 12 (by kernel_rfl) (by kernel_rfl) (by kernel_rfl) (by kernel_rfl)) ?_
 ·intro ds h
  rw [Try.params6] at h
  obtain _ | ⟨d0, _ | ⟨d1, _ | ⟨d2, _ | ⟨d3, _ | ⟨d4, _ | ⟨d5, ds⟩⟩⟩⟩⟩⟩ := ds <;> first | rfl | simp at h
 ·intro W base args ds p hval hA _
  rw [Try.params6] at hA hval
  obtain ⟨v0, vs0, d0, ds0, p0, q0, hargs, rfl, rfl, h0, r0⟩ := trodAll_cons hA
  obtain ⟨v1, vs1, d1, ds1, p1, q1, rfl, rfl, rfl, h1, r1⟩ := trodAll_cons r0
  obtain ⟨v2, vs2, d2, ds2, p2, q2, rfl, rfl, rfl, h2, r2⟩ := trodAll_cons r1
  obtain ⟨v3, vs3, d3, ds3, p3, q3, rfl, rfl, rfl, h3, r3⟩ := trodAll_cons r2
  obtain ⟨v4, vs4, d4, ds4, p4, q4, rfl, rfl, rfl, h4, r4⟩ := trodAll_cons r3
  obtain ⟨rfl, rfl, rfl⟩ := trodAll_nil r4
  obtain rfl : args = #[v0, v1, v2, v3, v4] := by cases args; simp_all
  obtain ⟨K0, rfl, hl0, hb0⟩ := open_keys (hval 0 33 v0 rfl rfl) h0
  obtain ⟨a1, rfl, rfl, rfl, w1⟩ := open_int Try.underlying3 (hval 1 3 v1 rfl rfl) h1
  obtain ⟨l2, hs2, hb2, hm2⟩ := open_slice_bytes Try.underlying22 Try.underlying5 (by kernel_rfl) (hval 2 22 v2 rfl rfl) h2
  obtain ⟨a3, rfl, rfl, rfl, w3⟩ := open_int Try.underlying5 (hval 3 5 v3 rfl rfl) h3
  obtain ⟨a4, rfl, rfl, rfl, w4⟩ := open_int Try.underlying5 (hval 4 5 v4 rfl rfl) h4
  exact (sealtags_any K0 a1 l2 v2 a3 a4 W hl0 hb0 (slv_slc hs2) hb2 (wf_u8 w3) (wf_u8 w4)).calls
theorem over : Rows.sealTagsRow.holds Try.pinned (OpenSpec.ofChange Rows.sealTagsSpec) :=
 OpenClaim.holds_of_wide 6 Try.f6 rfl rfl rfl rfl rfl rfl rfl ⟨rfl, rfl, rfl, rfl, rfl⟩ rfl rfl rfl rfl rfl (by kernel_rfl) Try.func6 (by kernel_rfl)
  (of_decide_eq_true (by kernel_rfl)) (by unfold Func.isWrapper; first | (rw [if_pos (by decide +kernel)]; kernel_rfl) | (rw [if_neg (by decide +kernel)]; exact ⟨rfl, rfl⟩))
  (fun os started H enc _ => lifted os started H enc)
theorem sealTags_holds : Rows.SealTagsSaid := over
#print axioms sealTags_holds
end Go.Proofs.Ythieegnhjoehbaa
