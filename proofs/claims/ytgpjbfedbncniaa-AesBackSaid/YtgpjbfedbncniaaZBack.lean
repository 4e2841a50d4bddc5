/- The given statement AesBackSaid: for every key, eight bytes, number, slice of bytes and cut the law AesBack returns true, and all reads as it did. No condition. -/
import Derived.Test.YtgpjbfedbncniaaA15
import Derived.Test.YtgpjbfedbncniaaVf
import Derived.Test.YtgpjbfedbncniaaRows
namespace Go.Proofs.Ytgpjbfedbncniaa
open Go.RowKit Go.Vc Go.ChangeShapes Go.WideShapes
set_option linter.unusedVariables false
theorem own : ownKnob Try.prog.godebug = none := by kernel_rfl
theorem laidOut : laidOutB Try.prog = true := by kernel_rfl
set_option maxRecDepth 100000 in
theorem lifted (os : Os) (started : os.Started) (H : Type) (enc : TypeId × Value → H) :
    ReturnsInHanded {} Try.checked os 5 .any (Rows.aesBackSpec.pre6 enc Try.prog Try.f5 Rows.aesBackRow.domain false) (Rows.aesBackSpec.post enc Try.prog Try.f5 false true false false) := by
  refine law_lifted (C := Try.checked) (bt := 4) own started (by kernel_rfl) Try.func5 laidOut rfl (by kernel_rfl) Try.underlying4 (by kernel_rfl) rfl ?_
    (ChangeSpec.witness6 (enc := enc) (C := Try.checked) false ⟨#[], #[(.agg (row (zeros 16)).toArray), (.agg (row (zeros 8)).toArray), (.int .u32 0), (.slice none 0 0), (.int .u8 0)], []⟩ 12 (by kernel_rfl) (by kernel_rfl) (by kernel_rfl) (by kernel_rfl)) ?_
  · intro ds h
    rw [Try.params5] at h
    obtain _ | ⟨d0, _ | ⟨d1, _ | ⟨d2, _ | ⟨d3, _ | ⟨d4, _ | ⟨d5, ds⟩⟩⟩⟩⟩⟩ := ds <;> first | rfl | simp at h
  · intro W base args ds p hval hA _
    rw [Try.params5] at hA hval
    obtain ⟨v0, vs0, d0, ds0, p0, q0, hargs, rfl, rfl, h0, r0⟩ := trodAll_cons hA
    obtain ⟨v1, vs1, d1, ds1, p1, q1, rfl, rfl, rfl, h1, r1⟩ := trodAll_cons r0
    obtain ⟨v2, vs2, d2, ds2, p2, q2, rfl, rfl, rfl, h2, r2⟩ := trodAll_cons r1
    obtain ⟨v3, vs3, d3, ds3, p3, q3, rfl, rfl, rfl, h3, r3⟩ := trodAll_cons r2
    obtain ⟨v4, vs4, d4, ds4, p4, q4, rfl, rfl, rfl, h4, r4⟩ := trodAll_cons r3
    obtain ⟨rfl, rfl, rfl⟩ := trodAll_nil r4
    obtain rfl : args = #[v0, v1, v2, v3, v4] := by cases args; simp_all
    obtain ⟨l0, rfl, hl0, hb0, _, _⟩ := open_bytes ⟨Try.underlying22, by kernel_rfl, by kernel_rfl, by kernel_rfl⟩ Try.underlying5 (hval 0 22 v0 rfl rfl) h0
    obtain ⟨l1, rfl, hl1, hb1, _, _⟩ := open_bytes ⟨Try.underlying28, by kernel_rfl, by kernel_rfl, by kernel_rfl⟩ Try.underlying5 (hval 1 28 v1 rfl rfl) h1
    obtain ⟨a2, rfl, rfl, rfl, w2⟩ := open_int Try.underlying34 (hval 2 34 v2 rfl rfl) h2
    obtain ⟨l3, hs3, hb3, hm3⟩ := open_slice_bytes Try.underlying29 Try.underlying5 (by kernel_rfl) (hval 3 29 v3 rfl rfl) h3
    obtain ⟨a4, rfl, rfl, rfl, w4⟩ := open_int Try.underlying5 (hval 4 5 v4 rfl rfl) h4
    exact (aesback_any l0 l1 l3 a2 a4 v3 W hl0 hb0 hl1 hb1 hs3 hb3 (wf_u32 w2) (wf_u8 w4)).calls
theorem over : Rows.aesBackRow.holds Try.pinned (OpenSpec.ofChange Rows.aesBackSpec) :=
  OpenClaim.holds_of_wide 5 Try.f5 rfl rfl rfl rfl rfl rfl rfl ⟨rfl, rfl, rfl, rfl, rfl⟩ rfl rfl rfl rfl rfl (by kernel_rfl) Try.func5 (by kernel_rfl)
    (of_decide_eq_true (by kernel_rfl)) (by unfold Func.isWrapper; first | (rw [if_pos (by decide +kernel)]; kernel_rfl) | (rw [if_neg (by decide +kernel)]; exact ⟨rfl, rfl⟩))
    (fun os started H enc _ => lifted os started H enc)
theorem aesBack_holds : Rows.AesBackSaid := over
#print axioms aesBack_holds
end Go.Proofs.Ytgpjbfedbncniaa
