/- The given statement PacketElicitingSaid: the law PacketEliciting returns true for any packet. No condition. -/
import Derived.Test.YtajcfafamdacdaaP8
import Derived.Test.YtajcfafamdacdaaVf
import Derived.Test.YtajcfafamdacdaaRows
namespace Go.Proofs.Ytajcfafamdacdaa
open Go.RowKit Go.Vc Go.ChangeShapes Go.WideShapes
set_option linter.unusedVariables false
theorem own : ownKnob Try.prog.godebug = none := by kernel_rfl
theorem laidOut : laidOutB Try.prog = true := by kernel_rfl
set_option maxRecDepth 100000 in
theorem lifted (os : Os) (started : os.Started) (H : Type) (enc : TypeId × Value → H) :
    ReturnsInHanded {} Try.checked os 8 .any (Rows.packetElicitingSpec.pre6 enc Try.prog Try.f8 Rows.packetElicitingRow.domain false) (Rows.packetElicitingSpec.post enc Try.prog Try.f8 false true false false) := by
  refine law_lifted (C := Try.checked) (bt := 4) own started (by kernel_rfl) Try.func8 laidOut rfl (by kernel_rfl) Try.underlying4 (by kernel_rfl) rfl ?_
    (ChangeSpec.witness6 (enc := enc) (C := Try.checked) false ⟨#[], #[(.agg [Value.int .i64 0, .int .i64 0, .slice none 0 0].toArray)], []⟩ 12 (by kernel_rfl) (by kernel_rfl) (by kernel_rfl) (by kernel_rfl)) ?_
  · intro ds h
    rw [Try.params8] at h
    obtain _ | ⟨d0, _ | ⟨d1, ds⟩⟩ := ds <;> first | rfl | simp at h
  · intro W base args ds p hval hA _
    rw [Try.params8] at hA hval
    obtain ⟨v0, vs0, d0, ds0, p0, q0, hargs, rfl, rfl, h0, r0⟩ := trodAll_cons hA
    obtain ⟨rfl, rfl, rfl⟩ := trodAll_nil r0
    obtain rfl : args = #[v0] := by cases args; simp_all
    obtain ⟨p0, cs0, rfl, hf0, hg0, hm0⟩ := open_packet (hval 0 24 v0 rfl rfl) h0
    exact (packeteliciting_any p0 cs0 W hf0).calls
theorem over : Rows.packetElicitingRow.holds Try.pinned (OpenSpec.ofChange Rows.packetElicitingSpec) :=
  OpenClaim.holds_of_wide 8 Try.f8 rfl rfl rfl rfl rfl rfl rfl ⟨rfl, rfl, rfl, rfl, rfl⟩ rfl rfl rfl rfl rfl (by kernel_rfl) Try.func8 (by kernel_rfl)
    (of_decide_eq_true (by kernel_rfl)) (by unfold Func.isWrapper; first | (rw [if_pos (by decide +kernel)]; kernel_rfl) | (rw [if_neg (by decide +kernel)]; exact ⟨rfl, rfl⟩))
    (fun os started H enc _ => lifted os started H enc)
theorem packetEliciting_holds : Rows.PacketElicitingSaid := over
#print axioms packetEliciting_holds
end Go.Proofs.Ytajcfafamdacdaa
