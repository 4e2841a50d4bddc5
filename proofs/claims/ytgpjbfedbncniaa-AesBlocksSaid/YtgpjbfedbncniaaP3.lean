/- Plain: the program's round keys and blocks are the reference's. -/
import Derived.Test.YtgpjbfedbncniaaP2
namespace Go.Proofs.Ytgpjbfedbncniaa
open Go.RowKit Go.Vc
set_option linter.unusedVariables false

theorem byte_nat {a : Int} (h : 0 ≤ a ∧ a < 256) : ∃ n : Nat, n < 256 ∧ a = n := ⟨a.toNat, by omega, by omega⟩
set_option maxRecDepth 100000 in
theorem tms2_all : ∀ n : Nat, n < 256 → tms n 2 = dbl n := by decide +kernel
set_option maxRecDepth 100000 in
theorem tms3_all : ∀ n : Nat, n < 256 → tms n 3 = xr (dbl n) n := by decide +kernel
set_option maxRecDepth 100000 in
theorem rbox_all : ∀ n : Nat, n < 256 → rbox n = boxL.getD n 0 := by decide +kernel
theorem tms2 {a : Int} (h : 0 ≤ a ∧ a < 256) : tms a 2 = dbl a := by obtain ⟨n, hn, rfl⟩ := byte_nat h; exact tms2_all n hn
theorem tms3 {a : Int} (h : 0 ≤ a ∧ a < 256) : tms a 3 = xr (dbl a) a := by obtain ⟨n, hn, rfl⟩ := byte_nat h; exact tms3_all n hn
theorem rbox_is {a : Int} (h : 0 ≤ a ∧ a < 256) : rbox a = boxT.getD a.toNat 0 := by
  obtain ⟨n, hn, rfl⟩ := byte_nat h
  rw [boxT_lit, Int.toNat_natCast]
  exact rbox_all n hn
theorem dbl_byte (a : Int) : 0 ≤ dbl a ∧ dbl a < 256 := by unfold dbl xr; exact bits_byte _ _ _

/-! the round keys -/
theorem sub_getD (O : List Int) (k c : Nat) (h : c < 16) : ((O.drop k).take 16).getD c 0 = O.getD (k + c) 0 := by
  simp [h]
theorem keys_round (O : List Int) (i : Nat) (rd : Int) (hl : O.length = 176) (hO : Bytes O) (hi : i < 10) : ∀ c, c ≤ 16 →
    (exCs i (exLast boxT O i rd, O) c).2 = rkC ((O.drop (16 * i)).take 16) O i rd c := by
  intro c
  induction c with
  | zero => exact fun _ => rfl
  | succ c ih =>
    intro hc
    have hih := ih (by omega)
    have X := exI i (exLast boxT O i rd, O) rfl (by show 16 * (i + 2) ≤ O.length; omega) c (by omega)
    show (exCs i (exLast boxT O i rd, O) c).2.set (16 * (i + 1) + c) (xr ((exCs i (exLast boxT O i rd, O) c).1.getD (c % 4) 0) ((exCs i (exLast boxT O i rd, O) c).2.getD (16 * i + c) 0)) =
      (rkC ((O.drop (16 * i)).take 16) O i rd c).set (16 * (i + 1) + c) (xr (((O.drop (16 * i)).take 16).getD c 0) (rkA2 ((O.drop (16 * i)).take 16) (rkC ((O.drop (16 * i)).take 16) O i rd c) i c rd))
    have hold := X.old (16 * i + c) (by omega)
    have hlast := X.last (c % 4) (by omega)
    rw [hold, hlast, sub_getD _ _ _ (by omega), xr_comm, ← hih]
    congr 2
    dsimp only
    by_cases h4 : c < 4
    · have e4 : c % 4 = c := by omega
      rw [e4, if_pos (Nat.le_refl _)]
      unfold rkA2 rkA1
      rw [if_pos h4, sub_getD _ _ _ (by omega)]
      have hb := fun j => rbox_is (hO.at j)
      obtain rfl | rfl | rfl | rfl : c = 0 ∨ c = 1 ∨ c = 2 ∨ c = 3 := by omega
      · rw [if_pos rfl, hb]; rfl
      · rw [if_neg (by decide), hb]; rfl
      · rw [if_neg (by decide), hb]; rfl
      · rw [if_neg (by decide), hb]; rfl
    · rw [if_neg (by omega)]
      unfold rkA2 rkA1
      rw [if_neg (by omega), if_neg h4, show 16 * (i + 1) + (c % 4 + 4 * ((c - 1 - c % 4) / 4)) = 16 * (i + 1) + (c - 4) by omega]
theorem keys_eq (key : List Int) (hk : key.length = 16) (hb : Bytes key) : ∀ i, i ≤ 10 → exK boxT key i = rkK key i := by
  intro i
  induction i with
  | zero => exact fun _ => rfl
  | succ i ih =>
    intro hi
    have h := ih (by omega)
    have hl := exK_len boxT key hk i
    have hB := exK_bytes boxT key hb i
    have hrd : 0 ≤ (exK boxT key i).2 ∧ (exK boxT key i).2 < 256 := by
      cases i with
      | zero => exact (show (0 : Int) ≤ 1 ∧ (1 : Int) < 256 from by decide)
      | succ i => exact dbl_byte _
    rw [exK_succ, rkK_succ, ← h, keys_round _ i _ hl hB (by omega) 16 (Nat.le_refl _), tms2 hrd]
theorem rkF_eq (key : List Int) (hk : key.length = 16) (hb : Bytes key) : rkF key = expF boxT key := by
  rw [rkF_is key 10 rfl, expF_is boxT key 10 rfl, keys_eq key hk hb 10 (Nat.le_refl _)]
end Go.Proofs.Ytgpjbfedbncniaa
