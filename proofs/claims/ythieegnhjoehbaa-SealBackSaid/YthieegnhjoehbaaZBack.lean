/- The given statement SealBackSaid: the law SealBack returns true for any keys, any others and any packet. No condition. -/
import Derived.Test.YthieegnhjoehbaaS20
import Derived.Test.YthieegnhjoehbaaVf
import Derived.Test.YthieegnhjoehbaaRows
namespace Go.Proofs.Ythieegnhjoehbaa
open Go.RowKit Go.Vc Go.ChangeShapes Go.WideShapes
set_option linter.unusedVariables false
theorem own : ownKnob Try.prog.godebug = none := by kernel_rfl
theorem laidOut : laidOutB Try.prog = true := by kernel_rfl
set_option maxRecDepth 100000 in
theorem lifted (os : Os) (started : os.Started) (H : Type) (enc : TypeId × Value → H) :
  ReturnsInHanded {} Try.checked os 5 .any (Rows.sealBackSpec.pre6 enc Try.prog Try.f5 Rows.sealBackRow.domain false) (Rows.sealBackSpec.post enc Try.prog Try.f5 false true false false) := by
 refine law_lifted (C := Try.checked) (bt := 4) own started (by kernel_rfl) Try.func5 laidOut rfl (by kernel_rfl) Try.underlying4 (by kernel_rfl) rfl ?_
  (ChangeSpec.witness6 (enc := enc) (C := Try.checked) false ⟨#[], #[(.agg (row (zeros 96)).toArray), (.agg (row (zeros 96)).toArray), (.agg [Value.int .i64 0, .int .i64 0, .slice none 0 0].toArray)], []⟩ 12 (by kernel_rfl) (by kernel_rfl) (by kernel_rfl) (by kernel_rfl)) ?_
 ·intro ds h
  rw [Try.params5] at h
  obtain _ | ⟨d0, _ | ⟨d1, _ | ⟨d2, _ | ⟨d3, ds⟩⟩⟩⟩ := ds <;> first | rfl | simp at h
 ·intro W base args ds p hval hA _
  rw [Try.params5] at hA hval
  obtain ⟨v0, vs0, d0, ds0, p0, q0, hargs, rfl, rfl, h0, r0⟩ := trodAll_cons hA
  obtain ⟨v1, vs1, d1, ds1, p1, q1, rfl, rfl, rfl, h1, r1⟩ := trodAll_cons r0
  obtain ⟨v2, vs2, d2, ds2, p2, q2, rfl, rfl, rfl, h2, r2⟩ := trodAll_cons r1
  obtain ⟨rfl, rfl, rfl⟩ := trodAll_nil r2
  obtain rfl : args = #[v0, v1, v2] := by cases args; simp_all
  obtain ⟨K0, rfl, hl0, hb0⟩ := open_keys (hval 0 33 v0 rfl rfl) h0
  obtain ⟨K1, rfl, hl1, hb1⟩ := open_keys (hval 1 33 v1 rfl rfl) h1
  obtain ⟨p2, cs2, rfl, hf2, hg2, hm2⟩ := open_packet (hval 2 25 v2 rfl rfl) h2
  exact (sealback_any K0 K1 p2 cs2 W hl0 hb0 hl1 hb1 hf2 (fun f hf => (hg2 f hf).1) (fun f hf => (hg2 f hf).2.1) hm2).calls
theorem over : Rows.sealBackRow.holds Try.pinned (OpenSpec.ofChange Rows.sealBackSpec) :=
 OpenClaim.holds_of_wide 5 Try.f5 rfl rfl rfl rfl rfl rfl rfl ⟨rfl, rfl, rfl, rfl, rfl⟩ rfl rfl rfl rfl rfl (by kernel_rfl) Try.func5 (by kernel_rfl)
  (of_decide_eq_true (by kernel_rfl)) (by unfold Func.isWrapper; first | (rw [if_pos (by decide +kernel)]; kernel_rfl) | (rw [if_neg (by decide +kernel)]; exact ⟨rfl, rfl⟩))
  (fun os started H enc _ => lifted os started H enc)
theorem sealBack_holds : Rows.SealBackSaid := over
#print axioms sealBack_holds
end Go.Proofs.Ythieegnhjoehbaa
