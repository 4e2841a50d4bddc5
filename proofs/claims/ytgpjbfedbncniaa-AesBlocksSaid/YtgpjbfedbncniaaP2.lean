/- Plain: what the round keys are. -/
import Derived.Test.YtgpjbfedbncniaaA11
namespace Go.Proofs.Ytgpjbfedbncniaa
open Go.RowKit Go.Vc
set_option linter.unusedVariables false

theorem xr_comm (a b : Int) : xr a b = xr b a := by
  show bits .xor .u8 a b = bits .xor .u8 b a
  simp only [bits, BitVec.xor_comm]
theorem getD_set_ne (l : List Int) (i j : Nat) (x : Int) (h : i ≠ j) : (l.set i x).getD j 0 = l.getD j 0 := by
  simp [h]

/-- What a round of the keys has done when c bytes are written. -/
structure ExI (i : Nat) (s : List Int × List Int) (c : Nat) : Prop where
  old : ∀ j, j < 16 * (i + 1) → (exCs i s c).2.getD j 0 = s.2.getD j 0
  last : ∀ r, r < 4 → (exCs i s c).1.getD r 0 = if c ≤ r then s.1.getD r 0 else (exCs i s c).2.getD (16 * (i + 1) + (r + 4 * ((c - 1 - r) / 4))) 0
  new : ∀ j, 4 ≤ j → j < c → (exCs i s c).2.getD (16 * (i + 1) + j) 0 = xr ((exCs i s c).2.getD (16 * (i + 1) + j - 4) 0) (s.2.getD (16 * i + j) 0)
theorem exI (i : Nat) (s : List Int × List Int) (h1 : s.1.length = 4) (h2 : 16 * (i + 2) ≤ s.2.length) : ∀ c, c ≤ 16 → ExI i s c := by
  intro c
  induction c with
  | zero => exact fun _ => ⟨fun _ _ => rfl, fun r _ => by simp [exCs], fun j _ h => by omega⟩
  | succ c ih =>
    intro hc
    have I := ih (by omega)
    have hl1 := (exCs_len i s c).1.trans h1
    have hl2 := (exCs_len i s c).2
    have hs : exCs i s (c + 1) = exC i c (exCs i s c) := rfl
    have hold : (exCs i s c).2.getD (16 * i + c) 0 = s.2.getD (16 * i + c) 0 := I.old _ (by omega)
    have hlast := I.last (c % 4) (by omega)
    have e1 : (exCs i s (c + 1)).1 = (exCs i s c).1.set (c % 4) (xr ((exCs i s c).1.getD (c % 4) 0) (s.2.getD (16 * i + c) 0)) := by rw [hs]; unfold exC; rw [hold]
    have e2 : (exCs i s (c + 1)).2 = (exCs i s c).2.set (16 * (i + 1) + c) (xr ((exCs i s c).1.getD (c % 4) 0) (s.2.getD (16 * i + c) 0)) := by rw [hs]; unfold exC; rw [hold]
    refine ⟨fun j hj => ?_, fun r hr => ?_, fun j hj hjc => ?_⟩
    · rw [e2, getD_set_ne _ _ _ _ (by omega)]; exact I.old j hj
    · rw [e1, e2]
      by_cases hrc : r = c % 4
      · rw [if_neg (by omega), hrc, getD_set_self _ _ _ (by omega), show c % 4 + 4 * ((c + 1 - 1 - c % 4) / 4) = c by omega, getD_set_self _ _ _ (by omega)]
      · rw [getD_set_ne _ _ _ _ (by omega), I.last r hr]
        by_cases hcr : c ≤ r
        · rw [if_pos hcr, if_pos (by omega)]
        · rw [if_neg hcr, if_neg (by omega), getD_set_ne _ _ _ _ (by omega), show (c + 1 - 1 - r) / 4 = (c - 1 - r) / 4 by omega]
    · rw [e2]
      by_cases hjc' : j = c
      · subst hjc'
        rw [getD_set_self _ _ _ (by omega), getD_set_ne _ _ _ _ (by omega), hlast, if_neg (by omega)]
        rw [show 16 * (i + 1) + (j % 4 + 4 * ((j - 1 - j % 4) / 4)) = 16 * (i + 1) + j - 4 by omega]
      · rw [getD_set_ne _ _ _ _ (by omega), getD_set_ne _ _ _ _ (by omega)]
        exact I.new j hj (by omega)

structure KOk (key O : List Int) (i : Nat) : Prop where
  first : ∀ j, j < 16 → O.getD j 0 = key.getD j 0
  next : ∀ n, n < i → ∀ j, 4 ≤ j → j < 16 → O.getD (16 * (n + 1) + j) 0 = xr (O.getD (16 * n + j) 0) (O.getD (16 * (n + 1) + j - 4) 0)
theorem exK_ok (S key : List Int) (hk : key.length = 16) : ∀ i, i ≤ 10 → KOk key (exK S key i).1 i := by
  intro i
  induction i with
  | zero =>
    intro _
    refine ⟨fun j hj => ?_, fun n hn => by omega⟩
    show (key ++ zeros 160).getD j 0 = _
    simp [List.getElem?_append, hk, hj]
  | succ i ih =>
    intro hi
    have I := ih (by omega)
    have hl := exK_len S key hk i
    have X := exI i (exLast S (exK S key i).1 i (exK S key i).2, (exK S key i).1) rfl (by show 16 * (i + 2) ≤ (exK S key i).1.length; omega) 16 (Nat.le_refl _)
    rw [exK_succ]
    refine ⟨fun j hj => ?_, fun n hn j hj hj2 => ?_⟩
    · rw [X.old j (by omega)]; exact I.first j hj
    · by_cases hni : n = i
      · subst hni
        rw [X.new j hj hj2, xr_comm, X.old (16 * n + j) (by omega)]
      · rw [X.old _ (by omega), X.old _ (by omega), X.old _ (by omega)]
        exact I.next n (by omega) j hj hj2
theorem expF_ok (S key : List Int) (hk : key.length = 16) : KOk key (expF S key) 10 := by
  rw [expF_is S key 10 rfl]
  exact exK_ok S key hk 10 (Nat.le_refl _)
end Go.Proofs.Ytgpjbfedbncniaa
