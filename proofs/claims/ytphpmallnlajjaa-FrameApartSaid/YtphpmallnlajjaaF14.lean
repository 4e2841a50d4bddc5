/- What a reader reads: a frame. Plain, and the steps. -/
import Derived.Test.YtphpmallnlajjaaF13
namespace Go.Proofs.Ytphpmallnlajjaa
open Go.RowKit Go.Vc
set_option linter.unusedVariables false

abbrev St := List Int × Bool
def rdN (s : St) : Int × St := (gN s.1, (s.1.drop (gS s.1), s.2 || (gt s.1).isNone))
def rdD (s : St) (n : Int) : List Int × St := (s.1.take (dK s.1 n), (s.1.drop (dK s.1 n), s.2 || dBad s.1 n))
def rdRs (s : St) : Nat → List (Int × Int) × St
  | 0 => ([], s)
  | k + 1 => ((rdRs s k).1 ++ [((rdN (rdRs s k).2).1, (rdN (rdN (rdRs s k).2).2).1)], (rdN (rdN (rdRs s k).2).2).2)
def rdA (s : St) : Int × St := if (rdN s).1 = 1 then (0, (rdN s).2) else rdN (rdN s).2
def rdB (s : St) : Int × St := if wantB (rdN s).1 = true then rdN (rdA s).2 else (0, (rdA s).2)
def rdR (s : St) : List (Int × Int) × St := if wantR (rdN s).1 = true then rdRs (rdN (rdB s).2).2 (min (rdN (rdB s).2).1 17).toNat else ([], (rdB s).2)
def rdT (s : St) : List Int × St := if wantD (rdN s).1 = true then rdD (rdN (rdR s).2).2 (rdN (rdR s).2).1 else ([], (rdR s).2)
def rdZ (s : St) : St := if (rdN s).1 = 0 then ((rdD (rdT s).2 (rdA s).1).2.1, (rdD (rdT s).2 (rdA s).1).2.2 || (rdD (rdT s).2 (rdA s).1).1.any (· != 0)) else (rdT s).2
def rdFrame (s : St) : Fr := ⟨(rdN s).1, (rdA s).1, (rdB s).1, (rdR s).1, (rdT s).1⟩
theorem rdRs_len (s : St) (k : Nat) : (rdRs s k).1.length = k := by
  induction k with
  | zero => rfl
  | succ k ih => simp [rdRs, ih]
theorem gN_nonneg (b : List Int) (hb : Bytes b) : 0 ≤ gN b := by
  unfold gN
  cases h : gt b with
  | none => exact Int.le_refl 0
  | some p => obtain ⟨n, s⟩ := p; exact (vb_gt hb h).1

/-- Where a reader stands. -/
structure Src (w : World) (blk : Nat) (base : Option Addr) (cap : Nat) (b : List Int) : Prop where
  slv : SlV w (.slice base b.length cap) (row b)
  bytes : Bytes b
  le : b.length ≤ 70368744177664
  apart : ∀ a, base = some a → a.block ≠ blk
theorem Src.keep {w w' : World} {blk : Nat} {base : Option Addr} {cap : Nat} {b : List Int} (h : Src w blk base cap b) (k : Keep w w' [blk]) : Src w' blk base cap b :=
  ⟨slv_keep h.slv k (fun a l c he => by cases he; simpa using h.apart _ rfl), h.bytes, h.le, h.apart⟩
theorem Src.drop {w : World} {blk : Nat} {base : Option Addr} {cap : Nat} {b : List Int} (h : Src w blk base cap b) {k : Nat} (hk : k ≤ b.length) :
    ∃ base' cap', subS base cap 1 k b.length = .slice base' (b.drop k).length cap' ∧ Src w blk base' cap' (b.drop k) := by
  have hs := slv_sub (lo := k) (hi := b.length) h.slv hk (Nat.le_refl _)
  rw [ints_sub, List.take_of_length_le (by rw [List.length_drop]; omega)] at hs
  have e : subS base cap 1 k b.length = .slice (if cap = k then base else base.map (·.add (k * 1))) (b.drop k).length (cap - k) := by unfold subS; rw [List.length_drop]
  rw [e] at hs
  refine ⟨_, _, e, hs, fun x hx => h.bytes x (List.mem_of_mem_drop hx), by rw [List.length_drop]; have := h.le; omega, fun a ha => ?_⟩
  cases base with
  | none => simp at ha
  | some p =>
    have hp := h.apart p rfl
    have : a = p ∨ a = p.add (k * 1) := by
      split at ha <;> simp at ha <;> simp [ha]
    rcases this with rfl | rfl
    · exact hp
    · have hb : (p.add (k * 1)).block = p.block := by unfold Addr.add; split <;> rfl
      rw [hb]; exact hp
/-- A number is read. -/
theorem number_at {w w' : World} {blk T : Nat} {base base' : Option Addr} {cap cap' : Nat} {b : List Int} {lost : Bool} (h : Src w blk base cap b) (k : Keep w w' [blk])
    (hc : w'.heap[blk]? = some (.cells [Value.slice base b.length cap, Value.bool lost].toArray T (0, 0))) (hq : subS base cap 1 (gS b) b.length = .slice base' (b.drop (gS b)).length cap') :
    Wr tb 37 [.pointer (some ⟨blk, 0, none⟩)] w' blk T (fun v c' m1 => v = .int .i64 (rdN (b, lost)).1 ∧ c' = [.slice base' (rdN (b, lost)).2.1.length cap', .bool (rdN (b, lost)).2.2] ∧ m1 = []) := by
  have h' := h.keep k
  have := number_any b base cap blk T lost w' h'.slv h'.bytes (by have := h'.le; omega) h'.apart hc
  rw [hq] at this
  exact this
theorem data_at {w w' : World} {blk T : Nat} {base base' : Option Addr} {cap cap' : Nat} {b : List Int} {n : Int} {lost : Bool} (h : Src w blk base cap b) (k : Keep w w' [blk])
    (hc : w'.heap[blk]? = some (.cells [Value.slice base b.length cap, Value.bool lost].toArray T (0, 0))) (hq : subS base cap 1 (dK b n) b.length = .slice base' (b.drop (dK b n)).length cap') :
    Wr tb 38 [.pointer (some ⟨blk, 0, none⟩), .int .i64 n] w' blk T (fun v c' m1 => ∃ bd cd ed, v = .slice bd (dK b n) cd ∧ c' = [.slice base' (rdD (b, lost) n).2.1.length cap', .bool (rdD (b, lost) n).2.2] ∧ m1 = [ed] ∧
      SlIs ty5 5 ed bd (dK b n) cd (row (rdD (b, lost) n).1)) := by
  have h' := h.keep k
  have := data_any b n base cap blk T lost w' h'.slv h'.bytes h'.le h'.apart hc
  rw [hq] at this
  exact this
theorem dK_le (b : List Int) (n : Int) : dK b n ≤ b.length := by unfold dK; split <;> omega
end Go.Proofs.Ytphpmallnlajjaa
