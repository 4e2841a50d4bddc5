/- Packets, plain: which may be, their bytes, what bytes are, what is padded. -/
import Derived.Test.YtajcfafamdacdaaFG
import Derived.Test.YtajcfafamdacdaaFH
namespace Go.Proofs.Ytajcfafamdacdaa
open Go.RowKit Go.Vc
set_option linter.unusedVariables false

structure Pk where
  side : Int
  num : Int
  fs : List Fr
def hOk (s n : Int) : Bool := (s == 0 || s == 1) && vsize n != 0
def hB (s n : Int) : List Int := s :: vb n
def pOk (p : Pk) : Bool := hOk p.side p.num && (wrOk p.fs && p.fs.length != 0)
def pB (p : Pk) : List Int := if pOk p = true then hB p.side p.num ++ wBs p.fs else []
/-- What stands ahead: the side, the number, how many bytes. -/
def hdd : List Int → Option (Int × Int × Nat)
  | [] => none
  | s :: r => if s ≤ 1 then (gt r).map fun x => (s, x.1, x.2 + 1) else none
def pRd (b : List Int) : Option Pk := (hdd b).bind fun h => (rdAll (b.drop h.2.2)).bind fun l => if l.length = 0 then none else some ⟨h.1, h.2.1, l⟩
theorem hOk_in {s n : Int} (h : hOk s n = true) : (s = 0 ∨ s = 1) ∧ vsize n ≠ 0 ∧ 0 ≤ n ∧ n < 4611686018427387904 := by
  unfold hOk at h
  simp at h
  have := vsize_cases n
  refine ⟨h.1, h.2, ?_, ?_⟩ <;> omega
theorem hOk_of {s n : Int} (h1 : s = 0 ∨ s = 1) (h0 : 0 ≤ n) (h2 : n < 4611686018427387904) : hOk s n = true := by
  unfold hOk
  have := vsize_ne h0 h2
  simp [this]
  exact h1
theorem hB_len (s n : Int) : (hB s n).length = vsize n + 1 := by
  unfold hB
  rw [List.length_cons, vb_len]
theorem hB_bytes {s n : Int} (h : hOk s n = true) : Bytes (hB s n) := by
  intro x hx
  rcases List.mem_cons.1 hx with rfl | hx
  · have := (hOk_in h).1
    omega
  · exact vb_bytes n x hx
theorem hdd_hB {s n : Int} (h : hOk s n = true) (r : List Int) : hdd (hB s n ++ r) = some (s, n, (hB s n).length) := by
  obtain ⟨h1, h2, h3, h4⟩ := hOk_in h
  show (if s ≤ 1 then (gt (vb n ++ r)).map fun x => (s, x.1, x.2 + 1) else none) = _
  rw [if_pos (by omega), gt_vb n r h3 h4, hB_len]
  rfl
theorem hdd_in {b : List Int} {s n : Int} {k : Nat} (hb : Bytes b) (h : hdd b = some (s, n, k)) : hOk s n = true ∧ b = hB s n ++ b.drop k ∧ k = (hB s n).length ∧ k ≤ b.length := by
  cases b with
  | nil => cases h
  | cons x r =>
    replace h : (if x ≤ 1 then (gt r).map fun y => (x, y.1, y.2 + 1) else none) = some (s, n, k) := h
    split at h
    · rename_i hx
      cases hg : gt r with
      | none => rw [hg] at h; cases h
      | some y =>
        obtain ⟨m, q⟩ := y
        rw [hg] at h
        cases h
        have hbr : Bytes r := fun z hz => hb z (.tail _ hz)
        obtain ⟨h1, h2, rfl, h4, h5, h6⟩ := vb_gt hbr hg
        have h0 := hb _ (.head _)
        refine ⟨hOk_of (by omega) h1 h2, ?_, by rw [hB_len], by rw [List.length_cons]; omega⟩
        show s :: r = hB s m ++ r.drop (vsize m)
        unfold hB
        rw [← h5, List.cons_append, List.take_append_drop]
    · cases h
theorem hdd_le {b : List Int} {s n : Int} {k : Nat} (hb : Bytes b) (h : hdd b = some (s, n, k)) : k ≤ b.length ∧ (s = 0 ∨ s = 1) ∧ 0 ≤ n ∧ n < 4611686018427387904 ∧ k ≤ 9 := by
  obtain ⟨h1, h2, h3, h4⟩ := hdd_in hb h
  obtain ⟨h5, h6, h7, h8⟩ := hOk_in h1
  have := vsize_cases n
  rw [hB_len] at h3
  exact ⟨h4, h5, h7, h8, by omega⟩
theorem pOk_in {p : Pk} (h : pOk p = true) : hOk p.side p.num = true ∧ wrOk p.fs = true ∧ p.fs.length ≠ 0 := by
  unfold pOk at h
  simpa using h
theorem pRd_pB {p : Pk} (h : pOk p = true) : pRd (pB p) = some p := by
  obtain ⟨h1, h2, h3⟩ := pOk_in h
  unfold pRd pB
  rw [if_pos h, hdd_hB h1]
  show (rdAll ((hB p.side p.num ++ wBs p.fs).drop (hB p.side p.num).length)).bind _ = _
  rw [List.drop_left, rd_wBs h2]
  show (if p.fs.length = 0 then none else some _) = _
  rw [if_neg h3]
theorem pRd_in {b : List Int} {p : Pk} (hb : Bytes b) (h : pRd b = some p) : pOk p = true ∧ pB p = b ∧ ∀ f ∈ p.fs, Bytes f.data := by
  unfold pRd at h
  cases hh : hdd b with
  | none => rw [hh] at h; cases h
  | some y =>
    obtain ⟨s, n, k⟩ := y
    rw [hh] at h
    replace h : ((rdAll (b.drop k)).bind fun l => if l.length = 0 then none else some (Pk.mk s n l)) = some p := h
    obtain ⟨h1, h2, h3, h4⟩ := hdd_in hb hh
    cases hr : rdAll (b.drop k) with
    | none => rw [hr] at h; cases h
    | some l =>
      rw [hr] at h
      replace h : (if l.length = 0 then none else some (Pk.mk s n l)) = some p := h
      split at h
      · cases h
      · rename_i hl
        cases h
        obtain ⟨h5, h6, h7⟩ := rdAll_read (fun x hx => hb x (List.mem_of_mem_drop hx)) hr
        have hok : pOk ⟨s, n, l⟩ = true := by
          unfold pOk
          rw [h1, h6]
          simpa using hl
        refine ⟨hok, ?_, h7⟩
        unfold pB
        rw [if_pos hok]
        show hB s n ++ wBs l = b
        rw [wBs_ok h6, ← h5, ← h2]
theorem pB_bytes {p : Pk} (h : ∀ f ∈ p.fs, Bytes f.data) : Bytes (pB p) := by
  unfold pB
  split
  · rename_i hp
    intro x hx
    rcases List.mem_append.1 hx with hx | hx
    · exact hB_bytes (pOk_in hp).1 x hx
    · exact wBs_bytes h x hx
  · intro x hx; cases hx
theorem pB_le (p : Pk) : (pB p).length ≤ 80009 := by
  unfold pB
  split
  · have h1 := wBs_le p.fs
    have := vsize_cases p.num
    rw [List.length_append, hB_len]
    omega
  · simp

/-! what is padded -/
def fit (more n : Int) : Bool := decide (1 ≤ n) && (decide (n ≤ 2048) && decide (1 + (vsize n : Int) + n = more))
def pFind (more : Int) : Option Int := if fit more (more - 2) = true then some (more - 2) else if fit more (more - 3) = true then some (more - 3) else none
theorem fit_in {more n : Int} (h : fit more n = true) : 1 ≤ n ∧ n ≤ 2048 ∧ 1 + (vsize n : Int) + n = more := by
  unfold fit at h
  simpa using h
theorem fit_of {more n : Int} (h1 : 1 ≤ n) (h2 : n ≤ 2048) (h3 : 1 + (vsize n : Int) + n = more) : fit more n = true := by
  unfold fit
  simp [h1, h2, h3]
theorem pFind_of {more n : Int} (h : fit more n = true) : pFind more = some n := by
  obtain ⟨h1, h2, h3⟩ := fit_in h
  have hv := vsize_cases n
  unfold pFind
  by_cases ha : fit more (more - 2) = true
  · rw [if_pos ha]
    obtain ⟨h4, h5, h6⟩ := fit_in ha
    have hv2 := vsize_cases (more - 2)
    exact congrArg some (by omega)
  · rw [if_neg ha]
    have : n = more - 3 := by
      rcases hv with hv | hv | hv | hv | hv
      · omega
      · exact absurd h (by rw [show n = more - 2 by omega]; exact ha)
      · omega
      · omega
      · omega
    subst this
    rw [if_pos h]
theorem pFind_in {more n : Int} (h : pFind more = some n) : fit more n = true := by
  unfold pFind at h
  split at h
  · rename_i hx; cases h; exact hx
  · split at h
    · rename_i hx; cases h; exact hx
    · cases h
/-- Frames of just so many bytes together. -/
def pPad (size : Int) (l : List Fr) : Option (List Fr) :=
  if wrOk l = true then (if ((wBs l).length : Int) = size then some l else if l.length = 16 then none else (pFind (size - (wBs l).length)).map fun n => l ++ [padN n]) else none
theorem pad_len {n : Int} (h1 : 1 ≤ n) (h2 : n ≤ 2048) : ((fbytes (padN n)).length : Int) = 1 + (vsize n : Int) + n := by
  rw [padBytes, List.flatMap_cons, List.flatMap_cons, List.flatMap_nil, List.append_nil, List.length_append, List.length_append, vb_len, vb_len, zeros_len]
  have : vsize 0 = 1 := by decide
  rw [this]
  omega
def hdB (s n : Int) : List Int := if hOk s n = true then hB s n else []
def hdE (s n : Int) : Int := if hOk s n = true then 0 else 30
theorem hd_no {s n : Int} (h : hOk s n = false) : hdB s n = [] ∧ hdE s n = 30 := by
  unfold hdB hdE
  rw [h]
  exact ⟨rfl, rfl⟩
theorem hd_yes {s n : Int} (h : hOk s n = true) : hdB s n = hB s n ∧ hdE s n = 0 := by
  unfold hdB hdE
  rw [h]
  exact ⟨rfl, rfl⟩
end Go.Proofs.Ytajcfafamdacdaa
