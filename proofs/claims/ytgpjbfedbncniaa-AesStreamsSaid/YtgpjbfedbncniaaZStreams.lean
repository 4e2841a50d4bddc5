/- The given statement AesStreamsSaid: for every key, eight bytes, number and slice of bytes the law AesStreams returns true, and all reads as it did. No condition. -/
import Derived.Test.YtgpjbfedbncniaaA14
import Derived.Test.YtgpjbfedbncniaaVf
import Derived.Test.YtgpjbfedbncniaaRows
namespace Go.Proofs.Ytgpjbfedbncniaa
open Go.RowKit Go.Vc Go.ChangeShapes Go.WideShapes
set_option linter.unusedVariables false
theorem own : ownKnob Try.prog.godebug = none := by kernel_rfl
theorem laidOut : laidOutB Try.prog = true := by kernel_rfl
set_option maxRecDepth 100000 in
theorem lifted (os : Os) (started : os.Started) (H : Type) (enc : TypeId × Value → H) :
    ReturnsInHanded {} Try.checked os 4 .any (Rows.aesStreamsSpec.pre6 enc Try.prog Try.f4 Rows.aesStreamsRow.domain false) (Rows.aesStreamsSpec.post enc Try.prog Try.f4 false true false false) := by
  refine law_lifted (C := Try.checked) (bt := 4) own started (by kernel_rfl) Try.func4 laidOut rfl (by kernel_rfl) Try.underlying4 (by kernel_rfl) rfl ?_
    (ChangeSpec.witness6 (enc := enc) (C := Try.checked) false ⟨#[], #[(.agg (row (zeros 16)).toArray), (.agg (row (zeros 8)).toArray), (.int .i64 0), (.slice none 0 0)], []⟩ 12 (by kernel_rfl) (by kernel_rfl) (by kernel_rfl) (by kernel_rfl)) ?_
  · intro ds h
    rw [Try.params4] at h
    obtain _ | ⟨d0, _ | ⟨d1, _ | ⟨d2, _ | ⟨d3, _ | ⟨d4, ds⟩⟩⟩⟩⟩ := ds <;> first | rfl | simp at h
  · intro W base args ds p hval hA _
    rw [Try.params4] at hA hval
    obtain ⟨v0, vs0, d0, ds0, p0, q0, hargs, rfl, rfl, h0, r0⟩ := trodAll_cons hA
    obtain ⟨v1, vs1, d1, ds1, p1, q1, rfl, rfl, rfl, h1, r1⟩ := trodAll_cons r0
    obtain ⟨v2, vs2, d2, ds2, p2, q2, rfl, rfl, rfl, h2, r2⟩ := trodAll_cons r1
    obtain ⟨v3, vs3, d3, ds3, p3, q3, rfl, rfl, rfl, h3, r3⟩ := trodAll_cons r2
    obtain ⟨rfl, rfl, rfl⟩ := trodAll_nil r3
    obtain rfl : args = #[v0, v1, v2, v3] := by cases args; simp_all
    obtain ⟨l0, rfl, hl0, hb0, _, _⟩ := open_bytes ⟨Try.underlying22, by kernel_rfl, by kernel_rfl, by kernel_rfl⟩ Try.underlying5 (hval 0 22 v0 rfl rfl) h0
    obtain ⟨l1, rfl, hl1, hb1, _, _⟩ := open_bytes ⟨Try.underlying28, by kernel_rfl, by kernel_rfl, by kernel_rfl⟩ Try.underlying5 (hval 1 28 v1 rfl rfl) h1
    obtain ⟨a2, rfl, rfl, rfl, w2⟩ := open_int Try.underlying3 (hval 2 3 v2 rfl rfl) h2
    obtain ⟨l3, hs3, hb3, hm3⟩ := open_slice_bytes Try.underlying29 Try.underlying5 (by kernel_rfl) (hval 3 29 v3 rfl rfl) h3
    exact (aesstreams_any l0 l1 l3 a2 v3 W hl0 hb0 hl1 hb1 hs3).calls
theorem over : Rows.aesStreamsRow.holds Try.pinned (OpenSpec.ofChange Rows.aesStreamsSpec) :=
  OpenClaim.holds_of_wide 4 Try.f4 rfl rfl rfl rfl rfl rfl rfl ⟨rfl, rfl, rfl, rfl, rfl⟩ rfl rfl rfl rfl rfl (by kernel_rfl) Try.func4 (by kernel_rfl)
    (of_decide_eq_true (by kernel_rfl)) (by unfold Func.isWrapper; first | (rw [if_pos (by decide +kernel)]; kernel_rfl) | (rw [if_neg (by decide +kernel)]; exact ⟨rfl, rfl⟩))
    (fun os started H enc _ => lifted os started H enc)
theorem aesStreams_holds : Rows.AesStreamsSaid := over
#print axioms aesStreams_holds
end Go.Proofs.Ytgpjbfedbncniaa
