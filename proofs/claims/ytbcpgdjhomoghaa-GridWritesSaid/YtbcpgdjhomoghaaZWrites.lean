/- The given statement GridWritesSaid: the law GridWrites returns true for any width, any height and any text. No condition. -/
import Derived.Test.YtbcpgdjhomoghaaG19
import Derived.Test.YtbcpgdjhomoghaaVf
import Derived.Test.YtbcpgdjhomoghaaRows
namespace Go.Proofs.Ytbcpgdjhomoghaa
open Go.RowKit Go.Vc Go.ChangeShapes Go.WideShapes
set_option linter.unusedVariables false
theorem slv_slc {w : World} {v : Value} {l : List Int} (h : SlV w v (row l)) : SlC (At w) 1 v l.length (row l) := by have := h.slc; rwa [row_len] at this
theorem own : ownKnob Try.prog.godebug = none := by kernel_rfl
theorem laidOut : laidOutB Try.prog = true := by kernel_rfl
set_option maxRecDepth 100000 in
theorem lifted (os : Os) (started : os.Started) (H : Type) (enc : TypeId × Value → H) :
  ReturnsInHanded {} Try.checked os 3 .any (Rows.gridWritesSpec.pre6 enc Try.prog Try.f3 Rows.gridWritesRow.domain false) (Rows.gridWritesSpec.post enc Try.prog Try.f3 false true false false) := by
 refine law_lifted (C := Try.checked) (bt := 4) own started (by kernel_rfl) Try.func3 laidOut rfl (by kernel_rfl) Try.underlying4 (by kernel_rfl) rfl ?_
  (ChangeSpec.witness6 (enc := enc) (C := Try.checked) false ⟨#[], #[(.int .u8 0), (.int .u8 0), (.slice none 0 0)], []⟩ 12 (by kernel_rfl) (by kernel_rfl) (by kernel_rfl) (by kernel_rfl)) ?_
 ·intro ds h
  rw [Try.params3] at h
  obtain _ | ⟨d0, _ | ⟨d1, _ | ⟨d2, _ | ⟨d3, ds⟩⟩⟩⟩ := ds <;> first | rfl | simp at h
 ·intro W base args ds p hval hA _
  rw [Try.params3] at hA hval
  obtain ⟨v0, vs0, d0, ds0, p0, q0, hargs, rfl, rfl, h0, r0⟩ := trodAll_cons hA
  obtain ⟨v1, vs1, d1, ds1, p1, q1, rfl, rfl, rfl, h1, r1⟩ := trodAll_cons r0
  obtain ⟨v2, vs2, d2, ds2, p2, q2, rfl, rfl, rfl, h2, r2⟩ := trodAll_cons r1
  obtain ⟨rfl, rfl, rfl⟩ := trodAll_nil r2
  obtain rfl : args = #[v0, v1, v2] := by cases args; simp_all
  obtain ⟨a0, rfl, rfl, rfl, w0⟩ := open_int Try.underlying5 (hval 0 5 v0 rfl rfl) h0
  obtain ⟨a1, rfl, rfl, rfl, w1⟩ := open_int Try.underlying5 (hval 1 5 v1 rfl rfl) h1
  obtain ⟨l2, hs2, hb2, hm2⟩ := open_slice_bytes Try.underlying22 Try.underlying5 (by kernel_rfl) (hval 2 22 v2 rfl rfl) h2
  exact (gridwrites_any a0 a1 l2 v2 W (wf_u8 w0) (wf_u8 w1) (slv_slc hs2) hb2).calls
theorem over : Rows.gridWritesRow.holds Try.pinned (OpenSpec.ofChange Rows.gridWritesSpec) :=
 OpenClaim.holds_of_wide 3 Try.f3 rfl rfl rfl rfl rfl rfl rfl ⟨rfl, rfl, rfl, rfl, rfl⟩ rfl rfl rfl rfl rfl (by kernel_rfl) Try.func3 (by kernel_rfl)
  (of_decide_eq_true (by kernel_rfl)) (by unfold Func.isWrapper; first | (rw [if_pos (by decide +kernel)]; kernel_rfl) | (rw [if_neg (by decide +kernel)]; exact ⟨rfl, rfl⟩))
  (fun os started H enc _ => lifted os started H enc)
theorem gridWrites_holds : Rows.GridWritesSaid := over
#print axioms gridWrites_holds
end Go.Proofs.Ytbcpgdjhomoghaa
