/- Plain: numbers as bytes. No program. -/
import Derived.Test.YtphpmallnlajjaaVb
namespace Go.Proofs.Ytphpmallnlajjaa
open Go.Vc
set_option linter.unusedVariables false

/-- How many bytes a number has. -/
def vsize (n : Int) : Nat := if n < 0 then 0 else if n < 64 then 1 else if n < 16384 then 2 else if n < 1073741824 then 4 else if n < 4611686018427387904 then 8 else 0
/-- The last s bytes of a number, the greatest first. -/
def be (n : Int) : Nat → List Int
  | 0 => []
  | s + 1 => n / 256 ^ s % 256 :: be n s
theorem be_len (n : Int) (s : Nat) : (be n s).length = s := by
  induction s with
  | zero => rfl
  | succ s ih => simp [be, ih]
theorem be_bytes (n : Int) (s : Nat) : Bytes (be n s) := by
  induction s with
  | zero => intro x hx; cases hx
  | succ s ih =>
    intro x hx
    cases hx with
    | head => omega
    | tail _ h => exact ih x h
theorem be_get (n : Int) (s i : Nat) (h : i < s) : (be n s)[i]? = some (n / 256 ^ (s - 1 - i) % 256) := by
  induction s generalizing i with
  | zero => omega
  | succ s ih =>
    cases i with
    | zero => rfl
    | succ i =>
      show (be n s)[i]? = _
      rw [ih i (by omega)]
      congr 4
      omega
def tag (s : Nat) : Int := if s = 2 then 64 else if s = 4 then 128 else if s = 8 then 192 else 0
/-- A number's bytes. -/
def tagged (s : Nat) : List Int → List Int
  | [] => []
  | x :: r => (x + tag s) :: r
def vb (n : Int) : List Int := tagged (vsize n) (be n (vsize n))
theorem tagged_len (s : Nat) (l : List Int) : (tagged s l).length = l.length := by cases l <;> rfl
theorem vb_len (n : Int) : (vb n).length = vsize n := by unfold vb; rw [tagged_len, be_len]
def fold (a : Int) (l : List Int) : Int := l.foldl (fun n y => n * 256 + y) a
theorem fold_cons (a x : Int) (l : List Int) : fold a (x :: l) = fold (a * 256 + x) l := rfl
theorem pow_pos (s : Nat) : 0 < (256 : Int) ^ s := Int.pow_pos (by decide)
theorem emod_mul (n P : Int) (hP : 0 < P) : n % (P * 256) = n % P + P * (n / P % 256) := by
  have h1 := Int.mul_ediv_add_emod n P
  have h2 := Int.mul_ediv_add_emod (n / P) 256
  have h3 := Int.emod_nonneg n (show P ≠ 0 by omega)
  have h4 := Int.emod_lt_of_pos n hP
  have h5 := Int.emod_nonneg (n / P) (show (256 : Int) ≠ 0 by decide)
  have h6 := Int.emod_lt_of_pos (n / P) (show (0 : Int) < 256 by decide)
  generalize n / P = q at *
  generalize n % P = r at *
  generalize q % 256 = d at *
  generalize q / 256 = e at *
  subst h2
  subst h1
  have e1 : P * (256 * e + d) + r = (r + P * d) + P * 256 * e := by rw [Int.mul_add, ← Int.mul_assoc]; omega
  rw [e1, Int.add_mul_emod_self_left]
  refine Int.emod_eq_of_lt (by have := Int.mul_nonneg (Int.le_of_lt hP) h5; omega) ?_
  have : P * d ≤ P * 255 := Int.mul_le_mul_of_nonneg_left (by omega) (Int.le_of_lt hP)
  omega
theorem fold_shift : ∀ (l : List Int) (a : Int), fold a l = a * 256 ^ l.length + fold 0 l
  | [], a => by simp [fold]
  | x :: l, a => by
    rw [fold_cons, fold_cons, fold_shift l, fold_shift l (0 * 256 + x), List.length_cons, Int.pow_succ]
    generalize (256 : Int) ^ l.length = P
    rw [Int.add_mul, Int.mul_assoc, Int.mul_comm 256 P]
    simp
    omega
theorem fold_in : ∀ (l : List Int), Bytes l → 0 ≤ fold 0 l ∧ fold 0 l < 256 ^ l.length
  | [], _ => by simp [fold]
  | x :: l, hb => by
    have hx := hb x (.head _)
    have ih := fold_in l (fun y hy => hb y (.tail _ hy))
    rw [fold_cons, fold_shift, List.length_cons, Int.pow_succ]
    have hP := pow_pos l.length
    generalize (256 : Int) ^ l.length = P at *
    have h1 : 0 ≤ x * P := Int.mul_nonneg hx.1 (Int.le_of_lt hP)
    have h2 : x * P ≤ 255 * P := Int.mul_le_mul_of_nonneg_right (by omega) (Int.le_of_lt hP)
    simp
    omega
theorem fold_be (n : Int) (s : Nat) : ∀ a, fold a (be n s) = a * 256 ^ s + n % 256 ^ s := by
  induction s with
  | zero => intro a; simp [be, fold]
  | succ s ih =>
    intro a
    rw [show be n (s + 1) = n / 256 ^ s % 256 :: be n s from rfl, fold_cons, ih, Int.pow_succ, emod_mul _ _ (pow_pos s)]
    generalize (256 : Int) ^ s = P
    rw [Int.add_mul, Int.mul_assoc, Int.mul_comm 256 P, Int.mul_comm (n / P % 256) P]
    omega
theorem be_fold : ∀ (l : List Int), Bytes l → ∀ a, be (fold a l) l.length = l
  | [], _, _ => rfl
  | x :: l, hb, a => by
    have hx := hb x (.head _)
    have hl : Bytes l := fun y hy => hb y (.tail _ hy)
    show fold (a * 256 + x) l / 256 ^ l.length % 256 :: be (fold (a * 256 + x) l) l.length = x :: l
    rw [be_fold l hl]
    congr 1
    rw [fold_shift]
    have hf := fold_in l hl
    have hP := pow_pos l.length
    generalize (256 : Int) ^ l.length = P at *
    rw [Int.add_comm, Int.add_mul_ediv_right _ _ (by omega), Int.ediv_eq_zero_of_lt hf.1 hf.2]
    omega

/-- The number that bytes begin with, and how many they are. -/
def gt : List Int → Option (Int × Nat)
  | [] => none
  | x :: r => if (2 : Nat) ^ (x / 64).toNat ≤ r.length + 1 then
      (if vsize (fold (x % 64) (r.take (2 ^ (x / 64).toNat - 1))) = 2 ^ (x / 64).toNat then some (fold (x % 64) (r.take (2 ^ (x / 64).toNat - 1)), 2 ^ (x / 64).toNat) else none) else none
theorem vsize_cases (n : Int) : (vsize n = 0 ∧ (n < 0 ∨ 4611686018427387904 ≤ n)) ∨ (vsize n = 1 ∧ 0 ≤ n ∧ n < 64) ∨ (vsize n = 2 ∧ 64 ≤ n ∧ n < 16384) ∨ (vsize n = 4 ∧ 16384 ≤ n ∧ n < 1073741824) ∨ (vsize n = 8 ∧ 1073741824 ≤ n ∧ n < 4611686018427387904) := by
  unfold vsize
  repeat' split
  all_goals omega
/-- A number's bytes: the first one, and the others. -/
theorem vb_parts (n : Int) (s : Nat) (hs : vsize n = s + 1) : vb n = (n / 256 ^ s % 256 + tag (s + 1)) :: be n s := by
  unfold vb
  rw [hs]
  rfl
theorem vb_head (n : Int) (s : Nat) (hs : vsize n = s + 1) : 0 ≤ n / 256 ^ s % 256 ∧ n / 256 ^ s % 256 < 64 ∧ n / 256 ^ s % 256 = n / 256 ^ s := by
  rcases vsize_cases n with ⟨h, h1⟩ | ⟨h, h1⟩ | ⟨h, h1⟩ | ⟨h, h1⟩ | ⟨h, h1⟩
  · omega
  · obtain rfl : s = 0 := by omega
    simp; omega
  · obtain rfl : s = 1 := by omega
    simp; omega
  · obtain rfl : s = 3 := by omega
    simp; omega
  · obtain rfl : s = 7 := by omega
    simp; omega
theorem vb_bytes (n : Int) : Bytes (vb n) := by
  cases hs : vsize n with
  | zero => unfold vb; rw [hs]; intro x hx; cases hx
  | succ s =>
    rw [vb_parts n s hs]
    intro x hx
    have h := vb_head n s hs
    cases hx with
    | head =>
      have : 0 ≤ tag (s + 1) ∧ tag (s + 1) ≤ 192 := by unfold tag; repeat' split
                                                       all_goals omega
      omega
    | tail _ hx => exact be_bytes n s x hx
/-- What was written is read. -/
theorem gt_vb (n : Int) (r : List Int) (h0 : 0 ≤ n) (h1 : n < 4611686018427387904) : gt (vb n ++ r) = some (n, vsize n) := by
  have key : ∀ s, vsize n = s + 1 → (2 : Nat) ^ ((n / 256 ^ s % 256 + tag (s + 1)) / 64).toNat = s + 1 → (n / 256 ^ s % 256 + tag (s + 1)) % 64 = n / 256 ^ s → n < 256 ^ s * 256 → gt (vb n ++ r) = some (n, vsize n) := by
    intro s hs h2 h3 h4
    rw [vb_parts n s hs]
    show (if (2 : Nat) ^ ((n / 256 ^ s % 256 + tag (s + 1)) / 64).toNat ≤ (be n s ++ r).length + 1 then _ else _) = _
    rw [h2, h3, show s + 1 - 1 = s from rfl, if_pos (by rw [List.length_append, be_len]; omega)]
    have e : ((be n s).append r).take s = be n s := by
      show (be n s ++ r).take s = be n s
      rw [List.take_append_of_le_length (by rw [be_len]; omega), List.take_of_length_le (by rw [be_len]; omega)]
    have e2 : fold (n / 256 ^ s) (be n s) = n := by
      rw [fold_be]
      have := Int.mul_ediv_add_emod n (256 ^ s)
      rw [Int.mul_comm] at this
      exact this
    rw [e, e2, hs, if_pos rfl]
  rcases vsize_cases n with ⟨h, h2⟩ | ⟨h, h2⟩ | ⟨h, h2⟩ | ⟨h, h2⟩ | ⟨h, h2⟩
  · omega
  · refine key 0 h ?_ ?_ ?_
    · have : ((n / 256 ^ 0 % 256 + tag (0 + 1)) / 64).toNat = 0 := by simp [tag]; omega
      rw [this]
    · simp [tag]; omega
    · simp; omega
  · refine key 1 h ?_ ?_ ?_
    · have : ((n / 256 ^ 1 % 256 + tag (1 + 1)) / 64).toNat = 1 := by simp [tag]; omega
      rw [this]
    · simp [tag]; omega
    · simp; omega
  · refine key 3 h ?_ ?_ ?_
    · have : ((n / 256 ^ 3 % 256 + tag (3 + 1)) / 64).toNat = 2 := by simp [tag]; omega
      rw [this]
    · simp [tag]; omega
    · simp; omega
  · refine key 7 h ?_ ?_ ?_
    · have : ((n / 256 ^ 7 % 256 + tag (7 + 1)) / 64).toNat = 3 := by simp [tag]; omega
      rw [this]
    · simp [tag]; omega
    · simp; omega
/-- What is read was written. -/
theorem vb_gt {b : List Int} {n : Int} {s : Nat} (hb : Bytes b) (h : gt b = some (n, s)) : 0 ≤ n ∧ n < 4611686018427387904 ∧ s = vsize n ∧ s ≤ b.length ∧ b.take s = vb n ∧ 0 < s := by
  cases b with
  | nil => cases h
  | cons x r =>
    have hx := hb x (.head _)
    have hr : Bytes r := fun y hy => hb y (.tail _ hy)
    obtain ⟨k, hk, hk4⟩ : ∃ k : Nat, (x / 64).toNat = k ∧ k < 4 := ⟨_, rfl, by omega⟩
    unfold gt at h
    dsimp only at h
    rw [hk] at h
    have key : ∀ s', 2 ^ k = s' + 1 → tag (s' + 1) = 64 * k → 0 ≤ n ∧ n < 4611686018427387904 ∧ s = vsize n ∧ s ≤ (x :: r).length ∧ (x :: r).take s = vb n ∧ 0 < s := by
      intro s' h2 ht
      rw [h2, show s' + 1 - 1 = s' from rfl] at h
      split at h
      · rename_i hlen
        split at h
        · rename_i hv
          simp only [Option.some.injEq, Prod.mk.injEq] at h
          obtain ⟨hn, rfl⟩ := h
          rw [hn] at hv
          have hl : (r.take s').length = s' := by rw [List.length_take]; omega
          have hrb : Bytes (r.take s') := fun y hy => hr y (List.mem_of_mem_take hy)
          have e1 : be n s' = r.take s' := by
            have := be_fold (r.take s') hrb (x % 64)
            rw [hl, hn] at this
            exact this
          have e2 : n / 256 ^ s' = x % 64 := by
            have h3 := fold_shift (r.take s') (x % 64)
            rw [hl, hn] at h3
            have hf := fold_in _ hrb
            rw [hl] at hf
            have hP := pow_pos s'
            generalize (256 : Int) ^ s' = P at *
            rw [h3, Int.add_comm, Int.add_mul_ediv_right _ _ (by omega), Int.ediv_eq_zero_of_lt hf.1 hf.2]
            omega
          have hd := vb_head n s' hv
          refine ⟨?_, ?_, hv.symm, by simp; omega, ?_, by omega⟩
          · rcases vsize_cases n with ⟨h, h1⟩ | ⟨h, h1⟩ | ⟨h, h1⟩ | ⟨h, h1⟩ | ⟨h, h1⟩ <;> omega
          · rcases vsize_cases n with ⟨h, h1⟩ | ⟨h, h1⟩ | ⟨h, h1⟩ | ⟨h, h1⟩ | ⟨h, h1⟩ <;> omega
          · rw [vb_parts n s' hv, hd.2.2, e2, e1, ht, List.take_succ_cons]
            congr 1
            omega
        · cases h
      · cases h
    obtain rfl | rfl | rfl | rfl : k = 0 ∨ k = 1 ∨ k = 2 ∨ k = 3 := by omega
    · exact key 0 rfl (by decide)
    · exact key 1 rfl (by decide)
    · exact key 3 rfl (by decide)
    · exact key 7 rfl (by decide)
end Go.Proofs.Ytphpmallnlajjaa
