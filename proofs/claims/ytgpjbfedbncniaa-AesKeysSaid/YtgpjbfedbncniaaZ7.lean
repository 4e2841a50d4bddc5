/- The given statement AesKeysSaid: for every key of sixteen bytes the law AesKeys returns true, and the key reads as it did. No condition. -/
import Derived.Test.YtgpjbfedbncniaaA12
import Derived.Test.YtgpjbfedbncniaaZ
namespace Go.Proofs.Ytgpjbfedbncniaa
open Go.RowKit Go.Vc Go.ChangeShapes Go.WideShapes
set_option linter.unusedVariables false

def zz (n : Nat) : Value := .agg (row (zeros n)).toArray
set_option maxRecDepth 100000 in
theorem lifted7 (os : Os) (started : os.Started) (H : Type) (enc : TypeId × Value → H) :
    ReturnsInHanded {} Try.checked os 7 .any (Rows.aesKeysSpec.pre6 enc Try.prog Try.f7 Rows.aesKeysRow.domain false) (Rows.aesKeysSpec.post enc Try.prog Try.f7 false true false false) := by
  refine law_lifted (C := Try.checked) (bt := 4) own started (by kernel_rfl) Try.func7 laidOut rfl (by kernel_rfl) Try.underlying4 (by kernel_rfl) rfl ?_
    (ChangeSpec.witness6 (enc := enc) (C := Try.checked) false ⟨#[], #[zz 16], []⟩ 8 (by kernel_rfl) (by kernel_rfl) (by kernel_rfl) (by kernel_rfl)) ?_
  · intro ds h
    rw [Try.params7] at h
    obtain _ | ⟨d, _ | ⟨d2, ds⟩⟩ := ds <;> first | rfl | simp at h
  · intro W base args ds p hval hA _
    rw [Try.params7] at hA hval
    obtain ⟨v0, vs0, d0, ds0, p0, q0, hargs, rfl, rfl, h0, r0⟩ := trodAll_cons hA
    obtain ⟨rfl, rfl, rfl⟩ := trodAll_nil r0
    obtain rfl : args = #[v0] := by cases args; simp_all
    obtain ⟨l, rfl, hl, hb, _, _⟩ := open_bytes arr22 Try.underlying5 (hval 0 22 v0 rfl rfl) h0
    exact (aeskeys_any l W hl hb).calls

theorem over7 : Rows.aesKeysRow.holds Try.pinned (OpenSpec.ofChange Rows.aesKeysSpec) :=
  OpenClaim.holds_of_wide 7 Try.f7 rfl rfl rfl rfl rfl rfl rfl ⟨rfl, rfl, rfl, rfl, rfl⟩ rfl rfl rfl rfl rfl (by kernel_rfl) Try.func7 (by kernel_rfl)
    (of_decide_eq_true (by kernel_rfl)) (by unfold Func.isWrapper; first | (rw [if_pos (by decide +kernel)]; kernel_rfl) | (rw [if_neg (by decide +kernel)]; exact ⟨rfl, rfl⟩))
    (fun os started H enc _ => lifted7 os started H enc)

theorem aesKeys_holds : Rows.AesKeysSaid := over7
#print axioms aesKeys_holds
end Go.Proofs.Ytgpjbfedbncniaa
