/- Whether a frame may be: the document's Check, Eliciting: walked. -/
import Derived.Test.YtphpmallnlajjaaF6
namespace Go.Proofs.Ytphpmallnlajjaa
open Go.RowKit Go.Vc
set_option linter.unusedVariables false

/-! plain: when a frame may be, kind by kind -/
theorem fok0 {f : Fr} (h : f.kind = 0) : fok f = true ↔ 1 ≤ f.a ∧ f.a ≤ 2048 ∧ f.b = 0 ∧ f.rs = [] ∧ f.data = [] := by
  unfold fok wrong least most
  rw [if_pos h, if_pos h, if_pos h]
  unfold wrong0 inB wantB wantR wantD
  rw [h]
  simp
  grind
theorem fok1 {f : Fr} (h : f.kind = 1) : fok f = true ↔ f.a = 0 ∧ f.b = 0 ∧ f.rs = [] ∧ f.data = [] := by
  unfold fok wrong least most
  simp only [h]
  unfold wrong0 inB wantB wantR wantD
  rw [h]
  simp
  grind
theorem fok2 {f : Fr} (h : f.kind = 2) : fok f = true ↔ 0 ≤ f.a ∧ f.a ≤ 4611686018427387903 ∧ f.b = 0 ∧ rgOk f.rs = true ∧ f.data = [] := by
  have hr : rgOk f.rs = true → f.rs ≠ [] := by
    intro h1 h2
    rw [h2] at h1
    cases h1
  unfold fok wrong least most
  simp only [h]
  unfold wrong0 inB wantB wantR wantD M62
  rw [h]
  simp
  grind
theorem fok3 {f : Fr} (h : f.kind = 3) : fok f = true ↔ 0 ≤ f.a ∧ f.a < f.b ∧ f.b ≤ 4611686018427387903 ∧ f.rs = [] ∧ f.data.length ≤ 2048 := by
  unfold fok wrong least most
  simp only [h]
  unfold wrong0 inB wantB wantR wantD M62
  rw [h]
  simp
  grind
theorem fok4 {f : Fr} (h : f.kind = 4) : fok f = true ↔ 0 ≤ f.a ∧ f.a ≤ 4611686018427387903 - f.data.length ∧ f.b = 0 ∧ f.rs = [] ∧ f.data ≠ [] ∧ f.data.length ≤ 2048 := by
  unfold fok wrong least most
  simp only [h]
  unfold wrong0 inB wantB wantR wantD M62
  rw [h]
  simp
  grind
theorem fok5 {f : Fr} (h : f.kind = 5) : fok f = true ↔ 1 ≤ f.a ∧ f.a ≤ 64 ∧ 1 ≤ f.b ∧ f.b ≤ 64 ∧ f.rs = [] ∧ f.data = [] := by
  unfold fok wrong least most
  simp only [h]
  unfold wrong0 inB wantB wantR wantD
  rw [h]
  simp
  grind
theorem fok67 {f : Fr} (h : f.kind = 6 ∨ f.kind = 7) : fok f = true ↔ 0 ≤ f.a ∧ f.a ≤ 4611686018427387903 ∧ f.b = 0 ∧ f.rs = [] ∧ f.data = [] := by
  unfold fok wrong least most
  rcases h with h | h
  all_goals
    simp only [h]
    unfold wrong0 inB wantB wantR wantD M62
    rw [h]
    simp
    grind
theorem fok_no {f : Fr} (h : f.kind ≠ 0 ∧ f.kind ≠ 1 ∧ f.kind ≠ 2 ∧ f.kind ≠ 3 ∧ f.kind ≠ 4 ∧ f.kind ≠ 5 ∧ f.kind ≠ 6 ∧ f.kind ≠ 7) : fok f = false := by
  unfold fok wrong
  simp [h]
end Go.Proofs.Ytphpmallnlajjaa
