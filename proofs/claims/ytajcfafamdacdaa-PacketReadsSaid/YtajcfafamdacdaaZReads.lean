/- The given statement PacketReadsSaid: the law PacketReads returns true for any bytes. No condition. -/
import Derived.Test.YtajcfafamdacdaaP8
import Derived.Test.YtajcfafamdacdaaVf
import Derived.Test.YtajcfafamdacdaaRows
namespace Go.Proofs.Ytajcfafamdacdaa
open Go.RowKit Go.Vc Go.ChangeShapes Go.WideShapes
set_option linter.unusedVariables false
theorem slv_slc {w : World} {v : Value} {l : List Int} (h : SlV w v (row l)) : SlC (At w) 1 v l.length (row l) := by have := h.slc; rwa [row_len] at this
theorem own : ownKnob Try.prog.godebug = none := by kernel_rfl
theorem laidOut : laidOutB Try.prog = true := by kernel_rfl
set_option maxRecDepth 100000 in
theorem lifted (os : Os) (started : os.Started) (H : Type) (enc : TypeId × Value → H) :
    ReturnsInHanded {} Try.checked os 4 .any (Rows.packetReadsSpec.pre6 enc Try.prog Try.f4 Rows.packetReadsRow.domain false) (Rows.packetReadsSpec.post enc Try.prog Try.f4 false true false false) := by
  refine law_lifted (C := Try.checked) (bt := 4) own started (by kernel_rfl) Try.func4 laidOut rfl (by kernel_rfl) Try.underlying4 (by kernel_rfl) rfl ?_
    (ChangeSpec.witness6 (enc := enc) (C := Try.checked) false ⟨#[], #[(.slice none 0 0)], []⟩ 12 (by kernel_rfl) (by kernel_rfl) (by kernel_rfl) (by kernel_rfl)) ?_
  · intro ds h
    rw [Try.params4] at h
    obtain _ | ⟨d0, _ | ⟨d1, ds⟩⟩ := ds <;> first | rfl | simp at h
  · intro W base args ds p hval hA _
    rw [Try.params4] at hA hval
    obtain ⟨v0, vs0, d0, ds0, p0, q0, hargs, rfl, rfl, h0, r0⟩ := trodAll_cons hA
    obtain ⟨rfl, rfl, rfl⟩ := trodAll_nil r0
    obtain rfl : args = #[v0] := by cases args; simp_all
    obtain ⟨l0, hs0, hb0, hm0⟩ := open_slice_bytes Try.underlying27 Try.underlying5 (by kernel_rfl) (hval 0 27 v0 rfl rfl) h0
    exact (packetreads_any l0 v0 W (slv_slc hs0) hb0).calls
theorem over : Rows.packetReadsRow.holds Try.pinned (OpenSpec.ofChange Rows.packetReadsSpec) :=
  OpenClaim.holds_of_wide 4 Try.f4 rfl rfl rfl rfl rfl rfl rfl ⟨rfl, rfl, rfl, rfl, rfl⟩ rfl rfl rfl rfl rfl (by kernel_rfl) Try.func4 (by kernel_rfl)
    (of_decide_eq_true (by kernel_rfl)) (by unfold Func.isWrapper; first | (rw [if_pos (by decide +kernel)]; kernel_rfl) | (rw [if_neg (by decide +kernel)]; exact ⟨rfl, rfl⟩))
    (fun os started H enc _ => lifted os started H enc)
theorem packetReads_holds : Rows.PacketReadsSaid := over
#print axioms packetReads_holds
end Go.Proofs.Ytajcfafamdacdaa
