/- Plain: numbers as bytes. No program. -/
import Derived.Test.YthieegnhjoehbaaVb
import Derived.Test.YthieegnhjoehbaaTz
import Derived.Test.YthieegnhjoehbaaVz
namespace Go.Proofs.Ythieegnhjoehbaa
open Go.Vc
set_option linter.unusedVariables false
/-- How many bytes a number has. -/
def vsize (n : Int) : Nat := if n < 0 then 0 else if n < 64 then 1 else if n < 16384 then 2 else if n < 1073741824 then 4 else if n < 4611686018427387904 then 8 else 0
/-- The last s bytes of a number, the greatest first. -/
def be (n : Int) : Nat → List Int
  | 0 => []
  | s + 1 => n / 256 ^ s % 256 :: be n s
theorem be_len (n : Int) (s : Nat) : (be n s).length = s := by
  induction s with
  | zero => rfl
  | succ s ih => simp [be, ih]
theorem be_bytes (n : Int) (s : Nat) : Bytes (be n s) := by
  induction s with
  | zero => intro x hx; cases hx
  | succ s ih =>
    intro x hx
    cases hx with
    | head => omega
    | tail _ h => exact ih x h
theorem be_get (n : Int) (s i : Nat) (h : i < s) : (be n s)[i]? = some (n / 256 ^ (s - 1 - i) % 256) := by
  induction s generalizing i with
  | zero => omega
  | succ s ih =>
    cases i with
    | zero => rfl
    | succ i =>
      show (be n s)[i]? = _
      rw [ih i (by omega)]
      congr 4
      omega
def tag (s : Nat) : Int := if s = 2 then 64 else if s = 4 then 128 else if s = 8 then 192 else 0
/-- A number's bytes. -/
def tagged (s : Nat) : List Int → List Int
  | [] => []
  | x :: r => (x + tag s) :: r
def vb (n : Int) : List Int := tagged (vsize n) (be n (vsize n))
theorem tagged_len (s : Nat) (l : List Int) : (tagged s l).length = l.length := by cases l <;> rfl
theorem vb_len (n : Int) : (vb n).length = vsize n := by unfold vb; rw [tagged_len, be_len]
def fold (a : Int) (l : List Int) : Int := l.foldl (fun n y => n * 256 + y) a
theorem fold_cons (a x : Int) (l : List Int) : fold a (x :: l) = fold (a * 256 + x) l := rfl
theorem pow_pos (s : Nat) : 0 < (256 : Int) ^ s := Int.pow_pos (by decide)
theorem emod_mul (n P : Int) (hP : 0 < P) : n % (P * 256) = n % P + P * (n / P % 256) := by
  have h1 := Int.mul_ediv_add_emod n P
  have h2 := Int.mul_ediv_add_emod (n / P) 256
  have h3 := Int.emod_nonneg n (show P ≠ 0 by omega)
  have h4 := Int.emod_lt_of_pos n hP
  have h5 := Int.emod_nonneg (n / P) (show (256 : Int) ≠ 0 by decide)
  have h6 := Int.emod_lt_of_pos (n / P) (show (0 : Int) < 256 by decide)
  generalize n / P = q at *
  generalize n % P = r at *
  generalize q % 256 = d at *
  generalize q / 256 = e at *
  subst h2
  subst h1
  have e1 : P * (256 * e + d) + r = (r + P * d) + P * 256 * e := by rw [Int.mul_add, ← Int.mul_assoc]; omega
  rw [e1, Int.add_mul_emod_self_left]
  refine Int.emod_eq_of_lt (by have := Int.mul_nonneg (Int.le_of_lt hP) h5; omega) ?_
  have : P * d ≤ P * 255 := Int.mul_le_mul_of_nonneg_left (by omega) (Int.le_of_lt hP)
  omega
theorem fold_shift : ∀ (l : List Int) (a : Int), fold a l = a * 256 ^ l.length + fold 0 l
  | [], a => by simp [fold]
  | x :: l, a => by
    rw [fold_cons, fold_cons, fold_shift l, fold_shift l (0 * 256 + x), List.length_cons, Int.pow_succ]
    generalize (256 : Int) ^ l.length = P
    rw [Int.add_mul, Int.mul_assoc, Int.mul_comm 256 P]
    simp
    omega
theorem fold_in : ∀ (l : List Int), Bytes l → 0 ≤ fold 0 l ∧ fold 0 l < 256 ^ l.length
  | [], _ => by simp [fold]
  | x :: l, hb => by
    have hx := hb x (.head _)
    have ih := fold_in l (fun y hy => hb y (.tail _ hy))
    rw [fold_cons, fold_shift, List.length_cons, Int.pow_succ]
    have hP := pow_pos l.length
    generalize (256 : Int) ^ l.length = P at *
    have h1 : 0 ≤ x * P := Int.mul_nonneg hx.1 (Int.le_of_lt hP)
    have h2 : x * P ≤ 255 * P := Int.mul_le_mul_of_nonneg_right (by omega) (Int.le_of_lt hP)
    simp
    omega
theorem fold_be (n : Int) (s : Nat) : ∀ a, fold a (be n s) = a * 256 ^ s + n % 256 ^ s := by
  induction s with
  | zero => intro a; simp [be, fold]
  | succ s ih =>
    intro a
    rw [show be n (s + 1) = n / 256 ^ s % 256 :: be n s from rfl, fold_cons, ih, Int.pow_succ, emod_mul _ _ (pow_pos s)]
    generalize (256 : Int) ^ s = P
    rw [Int.add_mul, Int.mul_assoc, Int.mul_comm 256 P, Int.mul_comm (n / P % 256) P]
    omega
theorem be_fold : ∀ (l : List Int), Bytes l → ∀ a, be (fold a l) l.length = l
  | [], _, _ => rfl
  | x :: l, hb, a => by
    have hx := hb x (.head _)
    have hl : Bytes l := fun y hy => hb y (.tail _ hy)
    show fold (a * 256 + x) l / 256 ^ l.length % 256 :: be (fold (a * 256 + x) l) l.length = x :: l
    rw [be_fold l hl]
    congr 1
    rw [fold_shift]
    have hf := fold_in l hl
    have hP := pow_pos l.length
    generalize (256 : Int) ^ l.length = P at *
    rw [Int.add_comm, Int.add_mul_ediv_right _ _ (by omega), Int.ediv_eq_zero_of_lt hf.1 hf.2]
    omega
/-- The number that bytes begin with, and how many they are. -/
def gt : List Int → Option (Int × Nat)
  | [] => none
  | x :: r => if (2 : Nat) ^ (x / 64).toNat ≤ r.length + 1 then
      (if vsize (fold (x % 64) (r.take (2 ^ (x / 64).toNat - 1))) = 2 ^ (x / 64).toNat then some (fold (x % 64) (r.take (2 ^ (x / 64).toNat - 1)), 2 ^ (x / 64).toNat) else none) else none
theorem vsize_cases (n : Int) : (vsize n = 0 ∧ (n < 0 ∨ 4611686018427387904 ≤ n)) ∨ (vsize n = 1 ∧ 0 ≤ n ∧ n < 64) ∨ (vsize n = 2 ∧ 64 ≤ n ∧ n < 16384) ∨ (vsize n = 4 ∧ 16384 ≤ n ∧ n < 1073741824) ∨ (vsize n = 8 ∧ 1073741824 ≤ n ∧ n < 4611686018427387904) := by
  unfold vsize
  repeat' split
  all_goals omega
/-- A number's bytes: the first one, and the others. -/
theorem vb_parts (n : Int) (s : Nat) (hs : vsize n = s + 1) : vb n = (n / 256 ^ s % 256 + tag (s + 1)) :: be n s := by
  unfold vb
  rw [hs]
  rfl
theorem vb_head (n : Int) (s : Nat) (hs : vsize n = s + 1) : 0 ≤ n / 256 ^ s % 256 ∧ n / 256 ^ s % 256 < 64 ∧ n / 256 ^ s % 256 = n / 256 ^ s := by
  rcases vsize_cases n with ⟨h, h1⟩ | ⟨h, h1⟩ | ⟨h, h1⟩ | ⟨h, h1⟩ | ⟨h, h1⟩
  · omega
  · obtain rfl : s = 0 := by omega
    simp; omega
  · obtain rfl : s = 1 := by omega
    simp; omega
  · obtain rfl : s = 3 := by omega
    simp; omega
  · obtain rfl : s = 7 := by omega
    simp; omega
theorem vb_bytes (n : Int) : Bytes (vb n) := by
  cases hs : vsize n with
  | zero => unfold vb; rw [hs]; intro x hx; cases hx
  | succ s =>
    rw [vb_parts n s hs]
    intro x hx
    have h := vb_head n s hs
    cases hx with
    | head =>
      have : 0 ≤ tag (s + 1) ∧ tag (s + 1) ≤ 192 := by unfold tag; repeat' split
                                                       all_goals omega
      omega
    | tail _ hx => exact be_bytes n s x hx
/-- What was written is read. -/
theorem gt_vb (n : Int) (r : List Int) (h0 : 0 ≤ n) (h1 : n < 4611686018427387904) : gt (vb n ++ r) = some (n, vsize n) := by
  have key : ∀ s, vsize n = s + 1 → (2 : Nat) ^ ((n / 256 ^ s % 256 + tag (s + 1)) / 64).toNat = s + 1 → (n / 256 ^ s % 256 + tag (s + 1)) % 64 = n / 256 ^ s → n < 256 ^ s * 256 → gt (vb n ++ r) = some (n, vsize n) := by
    intro s hs h2 h3 h4
    rw [vb_parts n s hs]
    show (if (2 : Nat) ^ ((n / 256 ^ s % 256 + tag (s + 1)) / 64).toNat ≤ (be n s ++ r).length + 1 then _ else _) = _
    rw [h2, h3, show s + 1 - 1 = s from rfl, if_pos (by rw [List.length_append, be_len]; omega)]
    have e : ((be n s).append r).take s = be n s := by
      show (be n s ++ r).take s = be n s
      rw [List.take_append_of_le_length (by rw [be_len]; omega), List.take_of_length_le (by rw [be_len]; omega)]
    have e2 : fold (n / 256 ^ s) (be n s) = n := by
      rw [fold_be]
      have := Int.mul_ediv_add_emod n (256 ^ s)
      rw [Int.mul_comm] at this
      exact this
    rw [e, e2, hs, if_pos rfl]
  rcases vsize_cases n with ⟨h, h2⟩ | ⟨h, h2⟩ | ⟨h, h2⟩ | ⟨h, h2⟩ | ⟨h, h2⟩
  · omega
  · refine key 0 h ?_ ?_ ?_
    · have : ((n / 256 ^ 0 % 256 + tag (0 + 1)) / 64).toNat = 0 := by simp [tag]; omega
      rw [this]
    · simp [tag]; omega
    · simp; omega
  · refine key 1 h ?_ ?_ ?_
    · have : ((n / 256 ^ 1 % 256 + tag (1 + 1)) / 64).toNat = 1 := by simp [tag]; omega
      rw [this]
    · simp [tag]; omega
    · simp; omega
  · refine key 3 h ?_ ?_ ?_
    · have : ((n / 256 ^ 3 % 256 + tag (3 + 1)) / 64).toNat = 2 := by simp [tag]; omega
      rw [this]
    · simp [tag]; omega
    · simp; omega
  · refine key 7 h ?_ ?_ ?_
    · have : ((n / 256 ^ 7 % 256 + tag (7 + 1)) / 64).toNat = 3 := by simp [tag]; omega
      rw [this]
    · simp [tag]; omega
    · simp; omega
/-- What is read was written. -/
theorem vb_gt {b : List Int} {n : Int} {s : Nat} (hb : Bytes b) (h : gt b = some (n, s)) : 0 ≤ n ∧ n < 4611686018427387904 ∧ s = vsize n ∧ s ≤ b.length ∧ b.take s = vb n ∧ 0 < s := by
  cases b with
  | nil => cases h
  | cons x r =>
    have hx := hb x (.head _)
    have hr : Bytes r := fun y hy => hb y (.tail _ hy)
    obtain ⟨k, hk, hk4⟩ : ∃ k : Nat, (x / 64).toNat = k ∧ k < 4 := ⟨_, rfl, by omega⟩
    unfold gt at h
    dsimp only at h
    rw [hk] at h
    have key : ∀ s', 2 ^ k = s' + 1 → tag (s' + 1) = 64 * k → 0 ≤ n ∧ n < 4611686018427387904 ∧ s = vsize n ∧ s ≤ (x :: r).length ∧ (x :: r).take s = vb n ∧ 0 < s := by
      intro s' h2 ht
      rw [h2, show s' + 1 - 1 = s' from rfl] at h
      split at h
      · rename_i hlen
        split at h
        · rename_i hv
          simp only [Option.some.injEq, Prod.mk.injEq] at h
          obtain ⟨hn, rfl⟩ := h
          rw [hn] at hv
          have hl : (r.take s').length = s' := by rw [List.length_take]; omega
          have hrb : Bytes (r.take s') := fun y hy => hr y (List.mem_of_mem_take hy)
          have e1 : be n s' = r.take s' := by
            have := be_fold (r.take s') hrb (x % 64)
            rw [hl, hn] at this
            exact this
          have e2 : n / 256 ^ s' = x % 64 := by
            have h3 := fold_shift (r.take s') (x % 64)
            rw [hl, hn] at h3
            have hf := fold_in _ hrb
            rw [hl] at hf
            have hP := pow_pos s'
            generalize (256 : Int) ^ s' = P at *
            rw [h3, Int.add_comm, Int.add_mul_ediv_right _ _ (by omega), Int.ediv_eq_zero_of_lt hf.1 hf.2]
            omega
          have hd := vb_head n s' hv
          refine ⟨?_, ?_, hv.symm, by simp; omega, ?_, by omega⟩
          · rcases vsize_cases n with ⟨h, h1⟩ | ⟨h, h1⟩ | ⟨h, h1⟩ | ⟨h, h1⟩ | ⟨h, h1⟩ <;> omega
          · rcases vsize_cases n with ⟨h, h1⟩ | ⟨h, h1⟩ | ⟨h, h1⟩ | ⟨h, h1⟩ | ⟨h, h1⟩ <;> omega
          · rw [vb_parts n s' hv, hd.2.2, e2, e1, ht, List.take_succ_cons]
            congr 1
            omega
        · cases h
      · cases h
    obtain rfl | rfl | rfl | rfl : k = 0 ∨ k = 1 ∨ k = 2 ∨ k = 3 := by omega
    · exact key 0 rfl (by decide)
    · exact key 1 rfl (by decide)
    · exact key 3 rfl (by decide)
    · exact key 7 rfl (by decide)
end Go.Proofs.Ythieegnhjoehbaa
/- The program's numbers, walked: Size, Put, Get, Join. -/
namespace Go.Proofs.Ythieegnhjoehbaa
open Go.RowKit Go.Vc
set_option linter.unusedVariables false
/-! Size -/
def sz2 : Nat → Int
  | 0 => 1
  | j + 1 => sz2 j * 2
def lo2 : Nat → Int
  | 0 => 0
  | 1 => 64
  | 2 => 16384
  | 3 => 1073741824
  | _ => 4611686018427387904
theorem size_step (n : Int) (j : Nat) (hj : j < 4) (h : lo2 j ≤ n) : 1 ≤ sz2 j ∧ sz2 j ≤ 8 ∧
    ((n / 2 ^ min (8 * sz2 j - 2).toNat IntKind.i64.bits == 0) = true → (vsize n : Int) = sz2 j) ∧ ((n / 2 ^ min (8 * sz2 j - 2).toNat IntKind.i64.bits == 0) = false → lo2 (j + 1) ≤ n) := by
  have e : ∀ (k : Nat), min k IntKind.i64.bits = min k 64 := fun k => rfl
  obtain rfl | rfl | rfl | rfl : j = 0 ∨ j = 1 ∨ j = 2 ∨ j = 3 := by omega
  all_goals
    rw [e]
    simp only [sz2, lo2] at h ⊢
    refine ⟨by decide, by decide, fun h1 => ?_, fun h1 => ?_⟩
    · have h2 := eq_of_beq h1
      rcases vsize_cases n with h3 | h3 | h3 | h3 | h3 <;> simp at h2 h3 ⊢ <;> omega
    · have h2 := ne_of_beq_false h1
      simp at h2
      omega
theorem size_any (n : Int) (w : World) : Gives tb 68 [.int .i64 n] w (.int .i64 (vsize n)) := by
  refine gives_of (fn := Try.f68) Try.func68 rfl Try.ntmps68 rfl ?_
  repeat refine c_seq ?_
  refine c_region ?_
  refine qa rfl rfl ?_
  refine step_nil ?_
  repeat refine c_seq ?_
  refine c_region ?_
  refine qm rfl rfl ?_
  refine step_pure rfl (pure_lss rfl rfl) ?_
  refine step_nil ?_
  repeat refine c_seq ?_
  refine c_cond rfl (fun h => ?_) (fun h => ?_)
  · have hn : vsize n = 0 := by have := of_decide_eq_true h; unfold vsize; rw [if_pos this]
    rw [hn]
    repeat refine c_seq ?_
    refine c_region ?_
    refine qa rfl rfl ?_
    refine step_nil ?_
    exact c_ret ⟨_, res_tmp Try.results68 rfl, rfl⟩
  · have hn : 0 ≤ n := by have := of_decide_eq_false h; omega
    clear h
    refine c_skip ?_
    repeat refine c_seq ?_
    refine c_region ?_
    refine qa rfl rfl ?_
    refine step_nil ?_
    repeat refine c_seq ?_
    refine c_block ?_
    repeat refine c_seq ?_
    refine c_loop (α := Nat) (fun j => [(0, .int .i64 n), (3, .int .i64 (sz2 j))]) (fun _ => []) (fun j => j ≤ 4 ∧ lo2 j ≤ n) (fun j => 4 - j) 0 ⟨by decide, hn⟩ (less_regs ⟨rfl, rfl, trivial⟩) ?_
    rintro j ⟨hj, hlo⟩
    repeat refine c_seq ?_
    refine c_region ?_
    refine qm rfl rfl ?_
    refine step_pure rfl (pure_leq rfl rfl) ?_
    refine step_nil ?_
    repeat refine c_seq ?_
    refine c_cond rfl (fun h => ?_) (fun h => ?_)
    · have hj4 : j < 4 := by
        rcases Nat.lt_or_ge j 4 with h' | h'
        · exact h'
        · obtain rfl : j = 4 := by omega
          exact absurd (of_decide_eq_true h) (by decide)
      clear h
      obtain ⟨h1, h2, h3, h4⟩ := size_step n j hj4 hlo
      refine c_skip ?_
      repeat refine c_seq ?_
      refine c_block ?_
      repeat refine c_seq ?_
      refine c_region ?_
      refine qm rfl rfl ?_
      refine qm rfl rfl ?_
      refine step_pure rfl (pure_mul64 rfl rfl (by omega) (by omega)) ?_
      refine step_pure rfl (pure_sub64 rfl rfl (by omega) (by omega)) ?_
      refine step_pure rfl (pure_shr rfl rfl (by omega)) ?_
      refine step_pure rfl (pure_eql rfl rfl) ?_
      refine step_nil ?_
      repeat refine c_seq ?_
      refine c_cond rfl (fun h => ?_) (fun h => ?_)
      · rw [h3 h]
        repeat refine c_seq ?_
        refine c_region ?_
        refine qm rfl rfl ?_
        refine qa rfl rfl ?_
        refine step_nil ?_
        exact c_ret ⟨_, res_tmp Try.results68 rfl, rfl⟩
      · have hlo' := h4 h
        clear h h3 h4
        refine c_skip ?_
        repeat refine c_seq ?_
        refine c_region ?_
        refine qm rfl rfl ?_
        refine step_pure rfl (pure_mul64 rfl rfl (by omega) (by omega)) ?_
        refine qa rfl rfl ?_
        refine step_nil ?_
        exact ⟨j + 1, ⟨by omega, hlo'⟩, by omega, less_regs ⟨rfl, rfl, trivial⟩⟩
    · have hj4 : j = 4 := by
        rcases Nat.lt_or_ge j 4 with h' | h'
        · have h1 := (size_step n j h' hlo).2.1
          exact absurd (of_decide_eq_false h) (by omega)
        · omega
      have hn0 : vsize n = 0 := by
        rw [hj4] at hlo
        simp only [lo2] at hlo
        rcases vsize_cases n with h3 | h3 | h3 | h3 | h3 <;> omega
      rw [hn0]
      refine c_exit ?_
      repeat refine c_seq ?_
      refine c_region ?_
      refine qa rfl rfl ?_
      refine step_nil ?_
      exact c_ret ⟨_, res_tmp Try.results68 rfl, rfl⟩
/-! copies -/
theorem clone_any (ns : List Int) (v : Value) (w : World) (hv : SlV w v (row ns)) (hn : ns.length ≤ 70368744177664) :
    Makes tb 69 [v] w fun u m' => ∃ base cap e, u = .slice base ns.length cap ∧ m' = [e] ∧ SlIs ty5 5 e base ns.length cap (row ns) := by
  obtain ⟨base0, cap0, rfl, hc⟩ := hv.is
  rw [row_len] at hv ⊢
  refine makes_of (fn := Try.f69) Try.func69 rfl Try.ntmps69 rfl ?_
  repeat refine c_seq ?_
  refine c_region ?_
  refine qa rfl rfl ?_
  refine step_hole ?_
  refine step_nil ?_
  repeat refine c_seq ?_
  refine c_region ?_
  refine qm rfl rfl ?_
  refine step_pure rfl (pure_nil_eql rfl rfl rfl rfl) ?_
  refine step_nil ?_
  repeat refine c_seq ?_
  refine c_cond rfl (fun h => ?_) (fun h => ?_)
  · have h0 : ns = [] := by
      cases base0 with
      | some p => cases h
      | none =>
        cases ns with
        | nil => rfl
        | cons x l => obtain ⟨p, hp, _⟩ := hc (by simp [ints]); cases hp
    subst h0
    repeat refine c_seq ?_
    refine c_region ?_
    refine qa rfl rfl ?_
    refine step_nil ?_
    exact c_ret ⟨_, res_tmp Try.results69 rfl, _, List.Sublist.refl _, none, 0, hole, rfl, rfl, sl_nil _ _ (by decide)⟩
  · refine c_skip ?_
    repeat refine c_seq ?_
    refine c_region ?_
    refine step_buildSlice0 rfl rfl rfl rfl (fun b5 => ?_)
    refine qm rfl rfl ?_
    refine step_append 0 rfl rfl (sl_empty _ _ b5) rfl rfl rfl rfl rfl elem5 rfl (by decide) rfl rfl (by rw [row_len]; exact (Nat.mul_one _).symm) (src_slc (k := ns.length) (fun w hh hk => by have := (slv_keep0 hv hk).slc; rw [row_len] at this; exact this)) (row_one _) (by omega) (by omega) (fun base' cap' e' hs' => ?_)
    rw [Nat.zero_add, List.nil_append] at hs'
    rw [Nat.zero_add]
    refine qa rfl rfl ?_
    refine step_nil ?_
    exact c_ret ⟨_, res_tmp Try.results69 rfl, [e'], (by show [e'].Sublist (_ :: _); exact List.Sublist.cons_cons _ (List.nil_sublist _)), base', cap', e', rfl, rfl, hs'⟩
/-! Put -/
def fl (n : Int) (s i : Nat) : List Int := (be n s).take i ++ zeros (s - i)
theorem fl_len (n : Int) (s i : Nat) (h : i ≤ s) : (fl n s i).length = s := by
  unfold fl
  rw [List.length_append, List.length_take, be_len, zeros_len]; omega
theorem fl_set (n : Int) (s i : Nat) (h : i < s) : (fl n s i).set i (n / 256 ^ (s - 1 - i) % 256) = fl n s (i + 1) := by
  apply List.ext_getElem?
  intro j
  have h1 := fl_len n s i (by omega)
  rw [List.getElem?_set]
  unfold fl
  have hbl := be_len n s
  by_cases hj : i = j
  · subst hj
    rw [if_pos rfl, if_pos (by rw [List.length_append, List.length_take, be_len, zeros_len]; omega), List.getElem?_append_left (by rw [List.length_take, be_len]; omega), List.getElem?_take, if_pos (by omega), be_get n s i h]
  · rw [if_neg hj]
    by_cases hji : j < i
    · rw [List.getElem?_append_left (by rw [List.length_take, be_len]; omega), List.getElem?_append_left (by rw [List.length_take, be_len]; omega), List.getElem?_take, List.getElem?_take, if_pos (by omega), if_pos (by omega)]
    · rw [List.getElem?_append_right (by rw [List.length_take, be_len]; omega), List.getElem?_append_right (by rw [List.length_take, be_len]; omega), List.length_take, List.length_take, be_len]
      unfold zeros
      rw [List.getElem?_replicate, List.getElem?_replicate]
      by_cases hjs : j < s
      · rw [if_pos (by omega), if_pos (by omega)]
      · rw [if_neg (by omega), if_neg (by omega)]
theorem be_byte (n : Int) (s i : Nat) (h : i < s) (hs : s ≤ 8) : IntKind.u8.wrap (n / 2 ^ min (8 * ((s : Int) - 1 - i)).toNat IntKind.i64.bits) = n / 256 ^ (s - 1 - i) % 256 := by
  rw [wrap_u8, show min (8 * ((s : Int) - 1 - i)).toNat IntKind.i64.bits = 8 * (s - 1 - i) from by show min _ 64 = _; omega, Int.pow_mul]
  rfl
theorem row_set_mid (a b : List Int) (R : List Value) (i : Nat) (x : Int) (h : i < b.length) : (row (a ++ b) ++ R).set (a.length + i) (.int .u8 x) = row (a ++ b.set i x) ++ R := by
  rw [List.set_append_left _ _ (by rw [row_len, List.length_append]; omega), row_set, List.set_append_right _ _ (by omega), Nat.add_sub_cancel_left]
theorem row_get_mid (a b : List Int) (R : List Value) (i : Nat) (h : i < b.length) : (row (a ++ b) ++ R)[a.length + i]? = some (.int .u8 (b.getD i 0)) := by
  rw [List.getElem?_append_left (by rw [row_len, List.length_append]; omega), row_get _ _ (by rw [List.length_append]; omega), List.getD_eq_getElem?_getD, List.getElem?_append_right (by omega), Nat.add_sub_cancel_left, List.getD_eq_getElem?_getD]
set_option maxHeartbeats 1000000 in
theorem put_any (bs : List Int) (n : Int) (v : Value) (w : World) (hv : SlV w v (row bs)) (hb : bs.length ≤ 35184372088832) :
    Makes tb 49 [v, .int .i64 n] w fun u m' => ∃ base len cap e, u = .tuple #[.slice base len cap, .int .i64 (if vsize n = 0 then 10 else 0)] ∧ m' = [e] ∧
      SlIs ty5 5 e base len cap (row (if vsize n = 0 then [] else bs ++ vb n)) := by
  obtain ⟨base0, cap0, rfl, hc⟩ := hv.is
  rw [row_len] at hv ⊢
  refine makes_of (fn := Try.f49) Try.func49 rfl Try.ntmps49 rfl ?_
  repeat refine c_seq ?_
  refine c_region ?_
  refine qa rfl rfl ?_
  refine step_hole ?_
  refine qa rfl rfl ?_
  refine step_nil ?_
  repeat refine c_seq ?_
  refine c_region ?_
  refine qm rfl rfl ?_
  refine step_gives rfl fun68 rfl (fun w _ _ => size_any n w) ?_
  refine qa rfl rfl ?_
  refine step_nil ?_
  repeat refine c_seq ?_
  refine c_region ?_
  refine qm rfl rfl ?_
  refine step_pure rfl (pure_eql rfl rfl) ?_
  refine step_nil ?_
  repeat refine c_seq ?_
  refine c_cond rfl (fun h => ?_) (fun h => ?_)
  · have h0 : vsize n = 0 := by have := eq_of_beq h; omega
    repeat refine c_seq ?_
    refine c_region ?_
    refine qa rfl rfl ?_
    refine qa rfl rfl ?_
    refine step_nil ?_
    refine c_ret ⟨_, res_tmp2 Try.results49 rfl rfl, _, List.Sublist.refl _, none, 0, 0, hole, ?_, rfl, ?_⟩
    · rw [if_pos h0]
    · rw [if_pos h0]; exact sl_nil _ _ (by decide)
  · have h0 : vsize n ≠ 0 := by have := ne_of_beq_false h; omega
    clear h
    rw [if_neg h0, if_neg h0]
    have hs8 : vsize n = 1 ∨ vsize n = 2 ∨ vsize n = 4 ∨ vsize n = 8 := by rcases vsize_cases n with h | h | h | h | h <;> omega
    have hvb : vb n = tagged (vsize n) (be n (vsize n)) := rfl
    have hbl := be_len n (vsize n)
    have hhd : ∃ s', vsize n = s' + 1 := ⟨vsize n - 1, by omega⟩
    obtain ⟨s', hs'⟩ := hhd
    have hvp := vb_parts n s' hs'
    have hvh := vb_head n s' hs'
    rw [hs'] at hs8 hbl ⊢
    clear hvb h0
    refine c_skip ?_
    repeat refine c_seq ?_
    refine c_region ?_
    refine qm rfl rfl ?_
    refine step_makes rfl fun69 rfl (fun w hh hkp => clone_any bs _ w (slv_keep0 hv hkp) (by omega)) ?_
    rintro u m' ⟨base1, cap1, e1, rfl, rfl, hs1⟩
    refine qm rfl rfl ?_
    refine step_append_z (k := s' + 1) 0 rfl rfl hs1 rfl rfl rfl rfl rfl elem5 rfl (by decide) rfl (by omega) (by intro v hv; simp at hv; subst hv; rfl) (by omega) (by omega) (fun base2 cap2 e2 hs2 => ?_)
    rw [zrow_u8, row_app] at hs2
    obtain ⟨hl2, hc2, b2, R, rfl, rfl, hR⟩ := slis_form rfl hs2 (by omega)
    rw [List.length_append, zeros_len] at hl2
    refine qa rfl rfl ?_
    refine step_nil ?_
    repeat refine c_seq ?_
    refine c_region ?_
    refine qm rfl rfl ?_
    refine qm rfl rfl ?_
    refine step_pure rfl (pure_len_slice rfl rfl rfl) ?_
    refine step_as rfl (pure_sub_lo rfl rfl rfl rfl rfl (by omega) (by omega)) (show _ = Value.slice (some ⟨b2, bs.length, none⟩) (s' + 1) (cap2 - bs.length) from ?_) ?_
    · show subS (some ⟨b2, 0, none⟩) cap2 1 (bs.length : Int).toNat (bs.length + (s' + 1)) = _
      unfold subS
      rw [Int.toNat_natCast, if_neg (by omega), show bs.length + (s' + 1) - bs.length = s' + 1 by omega]
      simp [add_none]
    refine qa rfl rfl ?_
    refine step_nil ?_
    repeat refine c_seq ?_
    refine c_region ?_
    refine qm rfl rfl ?_
    refine step_pure rfl (pure_len_slice rfl rfl rfl) ?_
    refine qm rfl rfl ?_
    refine step_nil ?_
    repeat refine c_seq ?_
    refine c_block ?_
    repeat refine c_seq ?_
    refine c_loop (α := Nat) (fun i => [(1, .int .i64 n), (6, .int .i64 ((s' + 1 : Nat) : Int)), (7, .slice (some ⟨b2, 0, none⟩) (bs.length + (s' + 1)) cap2), (8, .slice (some ⟨b2, bs.length, none⟩) (s' + 1) (cap2 - bs.length)), (24, .int .i64 ((s' + 1 : Nat) : Int)), (25, .int .i64 i)])
      (fun i => [⟨b2, row (bs ++ fl n (s' + 1) i) ++ R, 5⟩]) (fun i => i ≤ s' + 1) (fun i => s' + 1 - i) 0 (by omega)
      (less_sub ⟨rfl, rfl, rfl, rfl, rfl, rfl, trivial⟩ (by show List.Sublist [_] (_ :: _); exact List.Sublist.cons_cons _ (List.nil_sublist _))) ?_
    intro i hi
    repeat refine c_seq ?_
    refine c_region ?_
    refine step_pure rfl (pure_lss rfl rfl) ?_
    refine step_nil ?_
    repeat refine c_seq ?_
    refine c_cond rfl (fun h => ?_) (fun h => ?_)
    · have hlt : i < s' + 1 := by have := of_decide_eq_true h; omega
      clear h
      have hfl := fl_len n (s' + 1) i (by omega)
      have hbt := be_byte n (s' + 1) i hlt (by omega)
      refine c_skip ?_
      repeat refine c_seq ?_
      refine c_block ?_
      repeat refine c_seq ?_
      refine c_region ?_
      refine qm rfl rfl ?_
      refine qa rfl rfl ?_
      refine step_nil ?_
      repeat refine c_seq ?_
      refine c_region ?_
      refine qm rfl rfl ?_
      refine qm rfl rfl ?_
      refine qm rfl rfl ?_
      refine qm rfl rfl ?_
      refine step_pure rfl (pure_sub64 rfl rfl (by omega) (by omega)) ?_
      refine qm rfl rfl ?_
      refine step_pure rfl (pure_sub64 rfl rfl (by omega) (by omega)) ?_
      refine step_pure rfl (pure_mul64 rfl rfl (by omega) (by omega)) ?_
      refine step_pure rfl (pure_shr rfl rfl (by omega)) ?_
      refine step_as rfl (pure_conv rfl rfl rfl rfl) (show _ = Value.int .u8 (n / 256 ^ (s' + 1 - 1 - i) % 256) from by rw [hbt]) ?_
      refine step_pure rfl (pure_ixs (off' := bs.length + i) rfl rfl rfl rfl rfl (by omega) (by omega) (by show bs.length + (i : Int).toNat * 1 = _; omega)) ?_
      refine step_store 0 rfl rfl rfl rfl rfl rfl rfl rfl (by rw [List.length_append, row_len, List.length_append]; omega) (by rw [row_set_mid _ _ _ _ _ (by omega), fl_set n (s' + 1) i hlt]) ?_
      refine step_nil ?_
      repeat refine c_seq ?_
      refine c_region ?_
      refine step_pure rfl (pure_add64 rfl rfl (by omega) (by omega)) ?_
      refine qm rfl rfl ?_
      refine step_nil ?_
      exact ⟨i + 1, hlt, by omega, less_of ⟨rfl, rfl, rfl, rfl, rfl, rfl, trivial⟩ rfl⟩
    · have his : i = s' + 1 := by have := of_decide_eq_false h; omega
      clear h
      have hfe : fl n (s' + 1) i = be n (s' + 1) := by
        rw [his]
        unfold fl
        rw [List.take_of_length_le (by omega), Nat.sub_self]
        exact List.append_nil _
      rw [hfe]
      refine c_exit ?_
      repeat refine c_seq ?_
      refine c_region ?_
      refine qm rfl rfl ?_
      refine qa rfl rfl ?_
      refine step_nil ?_
      repeat refine c_seq ?_
      refine c_block ?_
      have hbe : be n (s' + 1) = n / 256 ^ s' % 256 :: be n s' := rfl
      rw [hbe]
      generalize n / 256 ^ s' % 256 = d at hvh hvp
      have hbl' := be_len n s'
      generalize be n s' = tl at hvp hbl'
      repeat refine c_seq ?_
      refine c_loop (α := Nat × Nat) (fun x => [(7, .slice (some ⟨b2, 0, none⟩) (bs.length + (s' + 1)) cap2), (8, .slice (some ⟨b2, bs.length, none⟩) (s' + 1) (cap2 - bs.length)), (10, .int .i64 x.1)])
        (fun x => [⟨b2, row (bs ++ (d + 64 * x.2) :: tl) ++ R, 5⟩]) (fun x => (x.1 = s' + 1 ∧ x.2 = 0) ∨ (2 * x.1 = s' + 1 ∧ x.2 = 1) ∨ (4 * x.1 = s' + 1 ∧ x.2 = 2) ∨ (8 * x.1 = s' + 1 ∧ x.2 = 3)) (fun x => x.1) (s' + 1, 0) (.inl ⟨rfl, rfl⟩)
        (less_of ⟨rfl, rfl, rfl, trivial⟩ (by simp)) ?_
      rintro ⟨k, j⟩ hkj
      dsimp only at hkj ⊢
      repeat refine c_seq ?_
      refine c_region ?_
      refine qm rfl rfl ?_
      refine step_pure rfl (pure_gtr rfl rfl) ?_
      refine step_nil ?_
      repeat refine c_seq ?_
      refine c_cond rfl (fun h => ?_) (fun h => ?_)
      · have hk1 : 1 < k := by have := of_decide_eq_true h; omega
        clear h
        refine c_skip ?_
        repeat refine c_seq ?_
        refine c_block ?_
        repeat refine c_seq ?_
        refine c_region ?_
        refine qm rfl rfl ?_
        refine step_pure rfl (pure_ixs (off' := bs.length + 0) rfl rfl rfl rfl rfl (by omega) (by omega) rfl) ?_
        refine step_pure rfl (pure_load (i := 0) rfl rfl rfl rfl rfl (row_get_mid bs _ R 0 (by simp))) ?_
        refine step_as rfl (pure_add rfl rfl) (show _ = Value.int .u8 (d + 64 * ((j + 1 : Nat) : Int)) from by rw [wrap_u8]; congr 1; show (d + 64 * (j : Int) + 64) % 256 = _; omega) ?_
        refine step_pure rfl (pure_ixs (off' := bs.length + 0) rfl rfl rfl rfl rfl (by omega) (by omega) rfl) ?_
        refine step_store 0 rfl rfl rfl rfl rfl rfl rfl rfl (by rw [List.length_append, row_len, List.length_append]; simp; omega) (row_set_mid bs _ R 0 _ (by simp)) ?_
        refine step_nil ?_
        repeat refine c_seq ?_
        refine c_region ?_
        refine qm rfl rfl ?_
        refine step_pure rfl (pure_quo_pos rfl rfl (by omega) (by omega) (by decide)) ?_
        refine qa rfl rfl ?_
        refine step_nil ?_
        exact ⟨(k / 2, j + 1), by dsimp only; omega, by dsimp only; omega, less_of ⟨rfl, rfl, rfl, trivial⟩ rfl⟩
      · have hk1 : k ≤ 1 := by have := of_decide_eq_false h; omega
        clear h
        have htag : 64 * (j : Int) = tag (s' + 1) := by
          unfold tag
          rcases hs8 with h | h | h | h <;> rw [h] at hkj ⊢ <;> simp <;> omega
        have hfin : bs ++ (d + 64 * (j : Int)) :: tl = bs ++ vb n := by rw [hvp, htag]
        rw [hfin]
        refine c_exit ?_
        repeat refine c_seq ?_
        refine c_region ?_
        refine qm rfl rfl ?_
        refine qa rfl rfl ?_
        refine qa rfl rfl ?_
        refine step_nil ?_
        have hll : (bs ++ vb n).length = bs.length + (s' + 1) := by rw [List.length_append, vb_len, hs']
        refine c_ret ⟨_, res_tmp2 Try.results49 rfl rfl, _, List.Sublist.refl _, _, _, _, _, rfl, rfl, ?_⟩
        have := slis_back (u := ty5) (eT := 5) (b := b2) (cap := cap2) (l := bs ++ vb n) (R := R) rfl (by omega) (by omega)
        rw [hll] at this
        exact this
end Go.Proofs.Ythieegnhjoehbaa
/- The program's numbers, walked: Get, Join. -/
namespace Go.Proofs.Ythieegnhjoehbaa
open Go.RowKit Go.Vc
set_option linter.unusedVariables false
set_option maxRecDepth 100000 in
theorem and63 : ∀ n : Nat, n < 256 → bits .and .u8 (n : Int) 63 = (n : Int) % 64 := by decide +kernel
theorem and63_is {x : Int} (h : 0 ≤ x ∧ x < 256) : bits .and .u8 x 63 = x % 64 := by
  have := and63 x.toNat (by omega)
  rw [show ((x.toNat : Nat) : Int) = x by omega] at this
  exact this
theorem or_byte (a x : Int) (ha : 0 ≤ a) (ha2 : a < 18014398509481984) (hx : 0 ≤ x) (hx2 : x < 256) : bits .or .i64 (a * 256) x = a * 256 + x := by
  obtain ⟨A, rfl⟩ := Int.eq_ofNat_of_zero_le ha
  obtain ⟨X, rfl⟩ := Int.eq_ofNat_of_zero_le hx
  show IntKind.i64.wrap ((BitVec.ofInt 64 ((A : Int) * 256) ||| BitVec.ofInt 64 (X : Int)).toNat : Int) = _
  have e1 : (BitVec.ofInt 64 ((A : Int) * 256)).toNat = A * 256 := by
    rw [BitVec.toNat_ofInt]; omega
  have e2 : (BitVec.ofInt 64 (X : Int)).toNat = X := by
    rw [BitVec.toNat_ofInt]; omega
  rw [BitVec.toNat_or, e1, e2]
  have e3 := Nat.shiftLeft_add_eq_or_of_lt (b := X) (i := 8) (by omega) A
  rw [Nat.shiftLeft_eq] at e3
  rw [show A * 256 = A * 2 ^ 8 from rfl, ← e3, wrap_i64 (by omega) (by omega)]
  omega
theorem fold_lt : ∀ (l : List Int), Bytes l → ∀ a, 0 ≤ a → 0 ≤ fold a l ∧ fold a l < (a + 1) * 256 ^ l.length := by
  intro l hb a ha
  have h1 := fold_in l hb
  rw [fold_shift]
  have hP := pow_pos l.length
  generalize (256 : Int) ^ l.length = P at *
  rw [Int.add_mul]
  have := Int.mul_nonneg ha (Int.le_of_lt hP)
  omega
theorem fold_snoc (a : Int) (l : List Int) (i : Nat) (h : i < l.length) : fold a (l.take (i + 1)) = fold a (l.take i) * 256 + l.getD i 0 := by
  rw [List.take_succ_eq_append_getElem h]
  unfold fold
  rw [List.foldl_append]
  simp [List.getD_eq_getElem?_getD, List.getElem?_eq_getElem h]
def gN (b : List Int) : Int := ((gt b).map (·.1)).getD 0
def gS (b : List Int) : Nat := ((gt b).map (·.2)).getD 0
def gE (b : List Int) : Int := if (gt b).isNone then 10 else 0
set_option maxHeartbeats 1000000 in
theorem get_any (b : List Int) (v : Value) (w : World) (hv : SlV w v (row b)) (hb : Bytes b) (hl : b.length ≤ 140737488355328) :
    Gives tb 56 [v] w (.tuple #[.int .i64 (gN b), .int .i64 (gS b), .int .i64 (gE b)]) := by
  obtain ⟨base0, cap0, rfl, hc⟩ := hv.is
  rw [row_len] at hv ⊢
  have hroom := hv.room _ _ _ rfl
  have res3 : ∀ {rs : Rs} {m : Mem} {v x y : Value}, Vc.look rs 2 = some v → Vc.look rs 3 = some x → Vc.look rs 4 = some y → ResIs tb Try.f56 rs m (.tuple #[v, x, y]) := by
    intro rs m v x y h1 h2 h3
    refine ⟨fun a w hr hh => ?_⟩
    have g1 := hr _ _ h1
    have g2 := hr _ _ h2
    have g3 := hr _ _ h3
    simp [results, Try.results56, Array.getD_eq_getD_getElem?, g1, g2, g3]
  refine gives_of (fn := Try.f56) Try.func56 rfl Try.ntmps56 rfl ?_
  repeat refine c_seq ?_
  refine c_region ?_
  refine qa rfl rfl ?_
  refine qa rfl rfl ?_
  refine qa rfl rfl ?_
  refine step_nil ?_
  repeat refine c_seq ?_
  refine c_region ?_
  refine qm rfl rfl ?_
  refine step_pure rfl (pure_len_slice rfl rfl rfl) ?_
  refine step_pure rfl (pure_eql rfl rfl) ?_
  refine step_nil ?_
  repeat refine c_seq ?_
  refine c_cond rfl (fun h => ?_) (fun h => ?_)
  · have h0 : b = [] := List.eq_nil_of_length_eq_zero (by have := eq_of_beq h; omega)
    repeat refine c_seq ?_
    refine c_region ?_
    refine qa rfl rfl ?_
    refine qa rfl rfl ?_
    refine qa rfl rfl ?_
    refine step_nil ?_
    refine c_ret ⟨_, res3 rfl rfl rfl, ?_⟩
    rw [h0]; rfl
  · have h0 : b.length ≠ 0 := by have := ne_of_beq_false h; omega
    clear h
    obtain ⟨p, rfl, hp⟩ := hc (by intro h; have := row_len b; rw [h] at this; simp at this; omega)
    obtain ⟨x, r, rfl⟩ : ∃ x r, b = x :: r := by cases b with
      | nil => simp at h0
      | cons x r => exact ⟨x, r, rfl⟩
    have hx := hb x (.head _)
    have hr : Bytes r := fun y hy => hb y (.tail _ hy)
    obtain ⟨k, hk, hk4⟩ : ∃ k : Nat, (x / 64).toNat = k ∧ k < 4 := ⟨_, rfl, by omega⟩
    have hcell0 : w.cell? (p.add 0) = some (.int .u8 x) := hp 0 _ rfl
    have h2k : (2 : Nat) ^ k = 1 ∨ (2 : Nat) ^ k = 2 ∨ (2 : Nat) ^ k = 4 ∨ (2 : Nat) ^ k = 8 := by
      obtain rfl | rfl | rfl | rfl : k = 0 ∨ k = 1 ∨ k = 2 ∨ k = 3 := by omega
      all_goals decide
    have hgt : gt (x :: r) = if (2 : Nat) ^ k ≤ r.length + 1 then (if vsize (fold (x % 64) (r.take (2 ^ k - 1))) = 2 ^ k then some (fold (x % 64) (r.take (2 ^ k - 1)), 2 ^ k) else none) else none := by
      rw [← hk]; rfl
    have hshl : IntKind.i64.wrap (1 * 2 ^ min (x / 2 ^ min (6 : Int).toNat IntKind.u8.bits).toNat IntKind.i64.bits) = ((2 ^ k : Nat) : Int) := by
      have e : (x / 2 ^ min (6 : Int).toNat IntKind.u8.bits).toNat = k := hk
      rw [e, show min k IntKind.i64.bits = k from by show min k 64 = k; omega]
      obtain rfl | rfl | rfl | rfl : k = 0 ∨ k = 1 ∨ k = 2 ∨ k = 3 := by omega
      all_goals decide
    refine c_skip ?_
    repeat refine c_seq ?_
    refine c_region ?_
    refine qm rfl rfl ?_
    refine step_pure rfl (pure_indexAddr_at rfl rfl rfl rfl rfl (by decide) (by simp)) ?_
    refine step_pure rfl (pure_view_at rfl rfl rfl hcell0 List.not_mem_nil) ?_
    refine step_pure rfl (pure_shr rfl rfl (by decide)) ?_
    refine step_as rfl (pure_shl rfl rfl (by show 0 ≤ x / 2 ^ min (6 : Int).toNat IntKind.u8.bits; exact Int.ediv_nonneg hx.1 (by decide))) (show _ = Value.int .i64 ((2 ^ k : Nat) : Int) from by rw [hshl]) ?_
    refine qa rfl rfl ?_
    refine step_nil ?_
    clear hshl
    generalize hs : (2 : Nat) ^ k = s at *
    repeat refine c_seq ?_
    refine c_region ?_
    refine qm rfl rfl ?_
    refine qm rfl rfl ?_
    refine step_pure rfl (pure_len_slice rfl rfl rfl) ?_
    refine step_pure rfl (pure_gtr rfl rfl) ?_
    refine step_nil ?_
    repeat refine c_seq ?_
    refine c_cond rfl (fun h => ?_) (fun h => ?_)
    · have hlt : ¬ s ≤ r.length + 1 := by have := of_decide_eq_true h; simp only [List.length_cons] at this; omega
      repeat refine c_seq ?_
      refine c_region ?_
      refine qa rfl rfl ?_
      refine qa rfl rfl ?_
      refine qa rfl rfl ?_
      refine step_nil ?_
      refine c_ret ⟨_, res3 rfl rfl rfl, ?_⟩
      unfold gN gS gE
      rw [hgt, if_neg hlt]
      rfl
    · have hle : s ≤ r.length + 1 := by have := of_decide_eq_false h; simp only [List.length_cons] at this; omega
      clear h
      rw [if_pos hle] at hgt
      have hsub : SlV w (subS (some p) cap0 1 1 s) (row (r.take (s - 1))) := by
        have := slv_sub (lo := 1) (hi := s) hv (by omega) (by simp only [List.length_cons]; omega)
        rw [ints_sub] at this
        exact this
      obtain ⟨base1, cap1, hq, hc1⟩ := hsub.is
      have htl : (r.take (s - 1)).length = s - 1 := by rw [List.length_take]; omega
      have htb : Bytes (r.take (s - 1)) := fun y hy => hr y (List.mem_of_mem_take hy)
      rw [row_len, htl] at hq
      generalize r.take (s - 1) = tl at *
      refine c_skip ?_
      repeat refine c_seq ?_
      refine c_region ?_
      refine qm rfl rfl ?_
      refine step_pure rfl (pure_indexAddr_at rfl rfl rfl rfl rfl (by decide) (by simp)) ?_
      refine step_pure rfl (pure_view_at rfl rfl rfl hcell0 List.not_mem_nil) ?_
      refine step_as rfl (pure_and rfl rfl) (show _ = Value.int .u8 (x % 64) from by rw [and63_is hx]) ?_
      refine step_as rfl (pure_conv rfl rfl rfl rfl) (show _ = Value.int .i64 (x % 64) from by rw [wrap_i64 (by omega) (by omega)]) ?_
      refine qa rfl rfl ?_
      refine step_nil ?_
      repeat refine c_seq ?_
      refine c_region ?_
      refine qm rfl rfl ?_
      refine qm rfl rfl ?_
      refine step_as rfl (pure_sub_both rfl rfl rfl rfl rfl rfl (by decide) (by omega) (by simp only [List.length_cons] at hroom; omega)) (show _ = Value.slice base1 (s - 1) cap1 from by rw [← hq]; show subS (some p) cap0 1 (1 : Int).toNat (s : Int).toNat = _; rw [Int.toNat_natCast]; rfl) ?_
      refine step_pure rfl (pure_len_slice rfl rfl rfl) ?_
      refine qm rfl rfl ?_
      refine step_nil ?_
      repeat refine c_seq ?_
      refine c_block ?_
      repeat refine c_seq ?_
      refine c_loop (α := Nat) (fun i => [(2, .int .i64 (fold (x % 64) (tl.take i))), (3, .int .i64 s), (26, .slice base1 (s - 1) cap1), (27, .int .i64 ((s - 1 : Nat) : Int)), (28, .int .i64 i)])
        (fun _ => []) (fun i => i ≤ s - 1) (fun i => s - 1 - i) 0 (Nat.zero_le _) (less_regs ⟨rfl, rfl, rfl, rfl, rfl, trivial⟩) ?_
      intro i hi
      repeat refine c_seq ?_
      refine c_region ?_
      refine step_pure rfl (pure_lss rfl rfl) ?_
      refine step_nil ?_
      repeat refine c_seq ?_
      refine c_cond rfl (fun h => ?_) (fun h => ?_)
      · have hlt : i < s - 1 := by have := of_decide_eq_true h; omega
        clear h
        obtain ⟨q, rfl, hcq⟩ := hc1 (by intro h; have := row_len tl; rw [h] at this; simp at this; omega)
        have hci := hcq i _ (row_get tl i (by omega))
        have hby := htb.at i
        have hfl := fold_lt (tl.take i) (fun y hy => htb y (List.mem_of_mem_take hy)) (x % 64) (by omega)
        have hfn := fold_snoc (x % 64) tl i (by omega)
        have hbd : (x % 64 + 1) * 256 ^ (tl.take i).length ≤ 18014398509481984 := by
          have h1 : (256 : Int) ^ (tl.take i).length ≤ 256 ^ 6 := by
            have : (tl.take i).length ≤ 6 := by rw [List.length_take]; omega
            exact (show ∀ k, k ≤ 6 → (256 : Int) ^ k ≤ 256 ^ 6 by decide) _ this
          have h2 : (x % 64 + 1) * 256 ^ (tl.take i).length ≤ (x % 64 + 1) * 256 ^ 6 := Int.mul_le_mul_of_nonneg_left h1 (by omega)
          have h3 : (x % 64 + 1) * 256 ^ 6 ≤ 64 * 256 ^ 6 := Int.mul_le_mul_of_nonneg_right (by omega) (by decide)
          exact Int.le_trans (Int.le_trans h2 h3) (by decide)
        generalize fold (x % 64) (tl.take i) = N at *
        have hor := or_byte N (tl.getD i 0) (by omega) (by omega) hby.1 hby.2
        refine c_skip ?_
        repeat refine c_seq ?_
        refine c_block ?_
        repeat refine c_seq ?_
        refine c_region ?_
        refine step_as rfl (pure_indexAddr_at rfl rfl rfl rfl rfl (by omega) (by omega)) (show _ = Value.pointer (some (q.add i)) from by show Value.pointer (some (q.add ((i : Int).toNat * 1))) = _; rw [Int.toNat_natCast, Nat.mul_one]) ?_
        refine step_pure rfl (pure_view_at rfl rfl rfl hci List.not_mem_nil) ?_
        refine qa rfl rfl ?_
        refine step_nil ?_
        repeat refine c_seq ?_
        refine c_region ?_
        refine qm rfl rfl ?_
        refine step_as rfl (pure_shl rfl rfl (by decide)) (show _ = Value.int .i64 (N * 256) from by show Value.int .i64 (IntKind.i64.wrap (N * 256)) = _; rw [wrap_i64 (by omega) (by omega)]) ?_
        refine qm rfl rfl ?_
        refine step_as rfl (pure_conv rfl rfl rfl rfl) (show _ = Value.int .i64 (tl.getD i 0) from by rw [wrap_i64 (by omega) (by omega)]) ?_
        refine step_as rfl (pure_or rfl rfl) (show _ = Value.int .i64 (N * 256 + tl.getD i 0) from by rw [hor]) ?_
        refine qa rfl rfl ?_
        refine step_nil ?_
        repeat refine c_seq ?_
        refine c_region ?_
        refine step_pure rfl (pure_add64 rfl rfl (by omega) (by omega)) ?_
        refine qm rfl rfl ?_
        refine step_nil ?_
        exact ⟨i + 1, by omega, by omega, less_regs ⟨by show some (Value.int .i64 (N * 256 + tl.getD i 0)) = _; rw [hfn], rfl, rfl, rfl, rfl, trivial⟩⟩
      · have his : i = s - 1 := by have := of_decide_eq_false h; omega
        clear h
        have hte : tl.take i = tl := List.take_of_length_le (by omega)
        rw [hte]
        refine c_exit ?_
        repeat refine c_seq ?_
        refine c_region ?_
        refine qm rfl rfl ?_
        refine step_gives rfl fun68 rfl (fun w _ _ => size_any _ w) ?_
        refine qm rfl rfl ?_
        refine step_pure rfl (pure_neq rfl rfl) ?_
        refine step_nil ?_
        repeat refine c_seq ?_
        refine c_cond rfl (fun h => ?_) (fun h => ?_)
        · have hne : vsize (fold (x % 64) tl) ≠ s := by
            have := ne_of_apply_ne (fun n : Nat => n) (fun h' : vsize (fold (x % 64) tl) = s => by rw [h'] at h; simp at h)
            exact this
          rw [if_neg hne] at hgt
          repeat refine c_seq ?_
          refine c_region ?_
          refine qa rfl rfl ?_
          refine qa rfl rfl ?_
          refine qa rfl rfl ?_
          refine step_nil ?_
          refine c_ret ⟨_, res3 rfl rfl rfl, ?_⟩
          unfold gN gS gE
          rw [hgt]
          rfl
        · have heq : vsize (fold (x % 64) tl) = s := by
            have := of_decide_eq_true (show decide ((vsize (fold (x % 64) tl) : Int) = s) = true by simpa using h)
            omega
          rw [if_pos heq] at hgt
          refine c_skip ?_
          repeat refine c_seq ?_
          refine c_region ?_
          refine qm rfl rfl ?_
          refine qm rfl rfl ?_
          refine qa rfl rfl ?_
          refine qa rfl rfl ?_
          refine qa rfl rfl ?_
          refine step_nil ?_
          refine c_ret ⟨_, res3 rfl rfl rfl, ?_⟩
          unfold gN gS gE
          rw [hgt]
          rfl
end Go.Proofs.Ythieegnhjoehbaa
/- Numbers, one behind the other; the document's numbers: walked. -/
namespace Go.Proofs.Ythieegnhjoehbaa
open Go.RowKit Go.Vc
set_option linter.unusedVariables false
theorem flat_le (ns : List Int) : (ns.flatMap vb).length ≤ 8 * ns.length := by
  induction ns with
  | nil => simp
  | cons n ns ih =>
    rw [List.flatMap_cons, List.length_append, vb_len, List.length_cons]
    rcases vsize_cases n with h | h | h | h | h <;> omega
theorem flat_snoc (ns : List Int) (i : Nat) (h : i < ns.length) : (ns.take (i + 1)).flatMap vb = (ns.take i).flatMap vb ++ vb (ns.getD i 0) := by
  rw [List.take_succ_eq_append_getElem h, List.flatMap_append]
  simp [List.getD_eq_getElem?_getD, List.getElem?_eq_getElem h]
def joinOk (ns : List Int) : Bool := ns.all fun n => vsize n != 0
theorem joinOk_not {ns : List Int} {i : Nat} (h : i < ns.length) (hz : vsize (ns.getD i 0) = 0) : joinOk ns = false := by
  rw [List.getD_eq_getElem?_getD, List.getElem?_eq_getElem h] at hz
  simp only [Option.getD_some] at hz
  unfold joinOk
  rw [← Bool.not_eq_true, List.all_eq_true]
  intro h1
  have := h1 _ (List.getElem_mem h)
  rw [hz] at this
  cases this
theorem joinOk_yes {ns : List Int} (h : ∀ j, j < ns.length → vsize (ns.getD j 0) ≠ 0) : joinOk ns = true := by
  unfold joinOk
  rw [List.all_eq_true]
  intro n hn
  obtain ⟨j, hj, rfl⟩ := List.getElem_of_mem hn
  have := h j hj
  rw [List.getD_eq_getElem?_getD, List.getElem?_eq_getElem hj] at this
  simpa using this
set_option maxHeartbeats 1000000 in
theorem join_any (ns : List Int) (v : Value) (w : World) (hv : SlC (fun p x => w.cell? p = some x) 1 v ns.length (ints .i64 ns)) (hn : ns.length ≤ 100000) :
    Makes tb 44 [v] w fun u m' => ∃ base len cap e, u = .tuple #[.slice base len cap, .int .i64 (if joinOk ns = true then 0 else 10)] ∧ m' = [e] ∧
      SlIs ty5 5 e base len cap (row (if joinOk ns = true then ns.flatMap vb else [])) := by
  obtain ⟨base0, cap0, rfl, hcap, hlen, hc⟩ := hv
  refine makes_of (fn := Try.f44) Try.func44 rfl Try.ntmps44 rfl ?_
  repeat refine c_seq ?_
  refine c_region ?_
  refine qa rfl rfl ?_
  refine step_hole ?_
  refine qa rfl rfl ?_
  refine step_nil ?_
  repeat refine c_seq ?_
  refine c_region ?_
  refine qm rfl rfl ?_
  refine step_pure rfl (pure_len_slice rfl rfl rfl) ?_
  refine qm rfl rfl ?_
  refine step_nil ?_
  repeat refine c_seq ?_
  refine c_block ?_
  repeat refine c_seq ?_
  refine c_loop (α := SlS × Nat) (fun x => [(2, .slice x.1.base x.1.len x.1.cap), (6, .slice base0 ns.length cap0), (7, .int .i64 ns.length), (8, .int .i64 x.2)]) (fun x => [x.1.e])
    (fun x => x.2 ≤ ns.length ∧ (∀ j, j < x.2 → vsize (ns.getD j 0) ≠ 0) ∧ SlIs ty5 5 x.1.e x.1.base x.1.len x.1.cap (row ((ns.take x.2).flatMap vb))) (fun x => ns.length - x.2) (⟨none, 0, 0, hole⟩, 0)
    ⟨Nat.zero_le _, fun j h => absurd h (Nat.not_lt_zero j), sl_nil _ _ (by decide)⟩ (less_of ⟨rfl, rfl, rfl, rfl, trivial⟩ rfl) ?_
  rintro ⟨⟨base, len, cap, e⟩, i⟩ ⟨hi, hall, hs⟩
  dsimp only at hi hall hs ⊢
  repeat refine c_seq ?_
  refine c_region ?_
  refine step_pure rfl (pure_lss rfl rfl) ?_
  refine step_nil ?_
  repeat refine c_seq ?_
  refine c_cond rfl (fun h => ?_) (fun h => ?_)
  · have hlt : i < ns.length := by have := of_decide_eq_true h; omega
    clear h
    obtain ⟨p, rfl, hp⟩ := hc (by intro h; have := ints_len .i64 ns; rw [h] at this; simp at this; omega)
    have hcell := hp i _ (ints_get .i64 ns i hlt)
    have hfl := flat_le (ns.take i)
    rw [List.length_take] at hfl
    have hsn := flat_snoc ns i hlt
    have hnot := fun hz => joinOk_not hlt hz
    generalize hxd : ns.getD i 0 = x at hcell hsn hnot
    generalize (ns.take i).flatMap vb = pre at hs hsn hfl
    have hxx : ∀ j, j < i + 1 → vsize x ≠ 0 → ns.getD i 0 = x → vsize (ns.getD j 0) ≠ 0 := by
      intro j hj hx he
      by_cases hji : j = i
      · rw [hji, he]; exact hx
      · exact hall j (by omega)
    refine c_skip ?_
    repeat refine c_seq ?_
    refine c_block ?_
    repeat refine c_seq ?_
    refine c_region ?_
    refine step_as rfl (pure_indexAddr_at rfl rfl rfl rfl rfl (by omega) (by omega)) (show _ = Value.pointer (some (p.add i)) from by show Value.pointer (some (p.add ((i : Int).toNat * 1))) = _; rw [Int.toNat_natCast, Nat.mul_one]) ?_
    refine step_pure rfl (pure_view_at rfl rfl rfl hcell List.not_mem_nil) ?_
    refine qa rfl rfl ?_
    refine step_nil ?_
    repeat refine c_seq ?_
    refine c_region ?_
    refine qm rfl rfl ?_
    refine qm rfl rfl ?_
    refine step_makes rfl fun49 rfl (fun w hh hkp => put_any pre x _ w (slis_now (j := 0) hs rfl w hh hkp).slv (by omega)) ?_
    rintro u m' ⟨base1, len1, cap1, e1, rfl, rfl, hs1⟩
    by_cases hz : vsize x = 0
    · rw [if_pos hz] at hs1 ⊢
      refine qm rfl rfl ?_
      refine qx rfl rfl rfl ?_
      refine qx rfl rfl rfl ?_
      refine qa rfl rfl ?_
      refine qa rfl rfl ?_
      refine step_nil ?_
      repeat refine c_seq ?_
      refine c_region ?_
      refine qm rfl rfl ?_
      refine step_as rfl (pure_neq rfl rfl) (show _ = Value.bool true from rfl) ?_
      refine step_nil ?_
      repeat refine c_seq ?_
      refine c_cond_yes rfl rfl ?_
      repeat refine c_seq ?_
      refine c_region ?_
      refine qm rfl rfl ?_
      refine step_hole ?_
      refine qa rfl rfl ?_
      refine qa rfl rfl ?_
      refine step_nil ?_
      have hno := hnot hz
      refine c_ret ⟨_, res_tmp2 Try.results44 rfl rfl, [hole], List.Sublist.cons_cons _ (List.nil_sublist _), none, 0, 0, hole, ?_, rfl, ?_⟩
      · rw [hno]; rfl
      · rw [hno]; exact sl_nil _ _ (by decide)
    · rw [if_neg hz] at hs1 ⊢
      refine qm rfl rfl ?_
      refine qx rfl rfl rfl ?_
      refine qx rfl rfl rfl ?_
      refine qa rfl rfl ?_
      refine qa rfl rfl ?_
      refine step_nil ?_
      repeat refine c_seq ?_
      refine c_region ?_
      refine qm rfl rfl ?_
      refine step_as rfl (pure_neq rfl rfl) (show _ = Value.bool false from rfl) ?_
      refine step_nil ?_
      repeat refine c_seq ?_
      refine c_cond_no rfl rfl ?_
      refine c_skip ?_
      repeat refine c_seq ?_
      refine c_region ?_
      refine step_pure rfl (pure_add64 rfl rfl (by omega) (by omega)) ?_
      refine qm rfl rfl ?_
      refine step_nil ?_
      exact ⟨(⟨base1, len1, cap1, e1⟩, i + 1), ⟨hlt, fun j hj => hxx j hj hz hxd, by rw [hsn]; exact hs1⟩, by dsimp only; omega, less_sub ⟨rfl, rfl, rfl, rfl, trivial⟩ (List.Sublist.cons_cons _ (List.nil_sublist _))⟩
  · have hie : i = ns.length := by have := of_decide_eq_false h; omega
    clear h
    refine c_exit ?_
    repeat refine c_seq ?_
    refine c_region ?_
    refine qm rfl rfl ?_
    refine qa rfl rfl ?_
    refine qa rfl rfl ?_
    refine step_nil ?_
    subst hie
    have hyes := joinOk_yes hall
    rw [List.take_length] at hs
    refine c_ret ⟨_, res_tmp2 Try.results44 rfl rfl, [e], List.Sublist.refl _, base, len, cap, e, ?_, rfl, ?_⟩
    · rw [hyes]; rfl
    · rw [hyes]; exact hs
end Go.Proofs.Ythieegnhjoehbaa
/- The document's numbers, walked: Size, Bytes, Get. -/
namespace Go.Proofs.Ythieegnhjoehbaa
open Go.RowKit Go.Vc
set_option linter.unusedVariables false
theorem rsize_any (n : Int) (w : World) : Gives tb 46 [.int .i64 n] w (.int .i64 (vsize n)) := by
  refine gives_of (fn := Try.f46) Try.func46 rfl Try.ntmps46 rfl ?_
  have hv := vsize_cases n
  generalize vsize n = s at hv ⊢
  repeat refine c_seq ?_
  refine c_region ?_
  refine qa rfl rfl ?_
  refine step_nil ?_
  repeat refine c_seq ?_
  refine c_block ?_
  repeat refine c_seq ?_
  repeat refine c_seq ?_
  refine c_meet [(0, .int .i64 n), (3, .bool (decide (n < 0) || decide (4611686018427387904 ≤ n)))] [] ?_ ?_
  · repeat refine c_seq ?_
    refine c_region ?_
    refine qm rfl rfl ?_
    refine step_pure rfl (pure_lss rfl rfl) ?_
    refine qm rfl rfl ?_
    refine step_split (t := 6) rfl (fun h6 => ?_) (fun h6 => ?_)
    · refine qp rfl rfl rfl ?_
      refine qp rfl rfl rfl ?_
      refine step_pure rfl (pure_pick_yes rfl rfl) ?_
      refine qa rfl rfl ?_
      refine step_nil ?_
      exact less_regs ⟨rfl, by show some (Value.bool _) = some (Value.bool _); simp_all <;> omega, trivial⟩
    · refine qm rfl rfl ?_
      refine step_pure rfl (pure_geq rfl rfl) ?_
      refine step_pure rfl (pure_pick_no rfl rfl) ?_
      refine qa rfl rfl ?_
      refine step_nil ?_
      exact less_regs ⟨rfl, by show some (Value.bool _) = some (Value.bool _); simp_all <;> omega, trivial⟩
  repeat refine c_seq ?_
  refine c_cond rfl (fun h => ?_) (fun h => ?_)
  · have h0 : s = 0 := by simp at h; omega
    repeat refine c_seq ?_
    refine c_region ?_
    refine qa rfl rfl ?_
    refine step_nil ?_
    exact c_ret ⟨_, res_tmp Try.results46 rfl, by rw [h0]; rfl⟩
  · have hb : 0 ≤ n ∧ n < 4611686018427387904 := by simp at h; omega
    clear h
    repeat refine c_seq ?_
    refine c_region ?_
    refine qm rfl rfl ?_
    refine step_pure rfl (pure_lss rfl rfl) ?_
    refine qa rfl rfl ?_
    refine step_nil ?_
    repeat refine c_seq ?_
    refine c_cond rfl (fun h => ?_) (fun h => ?_)
    · have h0 : s = 1 := by simp at h; omega
      repeat refine c_seq ?_
      refine c_region ?_
      refine qa rfl rfl ?_
      refine step_nil ?_
      exact c_ret ⟨_, res_tmp Try.results46 rfl, by rw [h0]; rfl⟩
    · have h1 := of_decide_eq_false h
      clear h
      repeat refine c_seq ?_
      refine c_region ?_
      refine qm rfl rfl ?_
      refine step_pure rfl (pure_lss rfl rfl) ?_
      refine qa rfl rfl ?_
      refine step_nil ?_
      repeat refine c_seq ?_
      refine c_cond rfl (fun h => ?_) (fun h => ?_)
      · have h0 : s = 2 := by simp at h; omega
        repeat refine c_seq ?_
        refine c_region ?_
        refine qa rfl rfl ?_
        refine step_nil ?_
        exact c_ret ⟨_, res_tmp Try.results46 rfl, by rw [h0]; rfl⟩
      · have h2 := of_decide_eq_false h
        clear h
        repeat refine c_seq ?_
        refine c_region ?_
        refine qm rfl rfl ?_
        refine step_pure rfl (pure_lss rfl rfl) ?_
        refine qa rfl rfl ?_
        refine step_nil ?_
        repeat refine c_seq ?_
        refine c_cond rfl (fun h => ?_) (fun h => ?_)
        · have h0 : s = 4 := by simp at h; omega
          repeat refine c_seq ?_
          refine c_region ?_
          refine qa rfl rfl ?_
          refine step_nil ?_
          exact c_ret ⟨_, res_tmp Try.results46 rfl, by rw [h0]; rfl⟩
        · have h0 : s = 8 := by simp at h; omega
          refine c_skip ?_
          repeat refine c_seq ?_
          refine c_region ?_
          refine qa rfl rfl ?_
          refine step_nil ?_
          exact c_ret ⟨_, res_tmp Try.results46 rfl, by rw [h0]; rfl⟩
theorem be_snoc (n : Int) (s j : Nat) (h : j < s) : (be n s).take (j + 1) = (be n s).take j ++ [n / 256 ^ (s - 1 - j) % 256] := by
  have h1 := be_get n s j h
  obtain ⟨hl, hv⟩ := List.getElem?_eq_some_iff.1 h1
  rw [List.take_succ_eq_append_getElem hl, hv]
set_option maxHeartbeats 1000000 in
theorem rbytes_any (n : Int) (w : World) : Makes tb 47 [.int .i64 n] w fun u m' => ∃ base cap e, u = .slice base (vsize n) cap ∧ m' = [e] ∧ SlIs ty5 5 e base (vsize n) cap (row (vb n)) := by
  refine makes_of (fn := Try.f47) Try.func47 rfl Try.ntmps47 rfl ?_
  have hs8 : vsize n = 0 ∨ vsize n = 1 ∨ vsize n = 2 ∨ vsize n = 4 ∨ vsize n = 8 := by rcases vsize_cases n with h | h | h | h | h <;> omega
  have hvb : vb n = tagged (vsize n) (be n (vsize n)) := rfl
  have hhd : ∀ s', vsize n = s' + 1 → _ := vb_head n
  have hbl := fun s => be_len n s
  rw [hvb]
  repeat refine c_seq ?_
  refine c_region ?_
  refine qa rfl rfl ?_
  refine step_nil ?_
  repeat refine c_seq ?_
  refine c_region ?_
  refine qm rfl rfl ?_
  refine step_gives rfl fun46 rfl (fun w _ _ => rsize_any n w) ?_
  refine qa rfl rfl ?_
  refine step_nil ?_
  repeat refine c_seq ?_
  refine c_region ?_
  refine qa rfl rfl ?_
  refine step_hole ?_
  refine step_nil ?_
  repeat refine c_seq ?_
  refine c_region ?_
  refine qm rfl rfl ?_
  refine step_pure rfl (pure_sub64 rfl rfl (by omega) (by omega)) ?_
  refine qa rfl rfl ?_
  refine step_nil ?_
  clear hvb
  generalize vsize n = s at hs8 hhd ⊢
  repeat refine c_seq ?_
  refine c_block ?_
  have hwf : ∀ j : Nat, j ≤ s → IntKind.i64.wrap ((s : Int) - 1 - j) = s - 1 - j := fun j hj => wrap_i64 (by omega) (by omega)
  repeat refine c_seq ?_
  refine c_loop (α := SlS × Nat) (fun x => [(0, .int .i64 n), (3, .int .i64 s), (4, .slice x.1.base x.1.len x.1.cap), (5, .int .i64 (s - 1 - x.2))]) (fun x => [x.1.e])
    (fun x => x.2 ≤ s ∧ x.1.len = x.2 ∧ SlIs ty5 5 x.1.e x.1.base x.1.len x.1.cap (row ((be n s).take x.2))) (fun x => s - x.2) (⟨none, 0, 0, hole⟩, 0)
    ⟨Nat.zero_le _, rfl, sl_nil _ _ (by decide)⟩ (less_of ⟨rfl, rfl, rfl, by show some (Value.int .i64 ((s : Int) - 1)) = some (Value.int .i64 ((s : Int) - 1 - ((0 : Nat) : Int))); congr 2; omega, trivial⟩ rfl) ?_
  rintro ⟨⟨base, len, cap, e⟩, j⟩ ⟨hj, hlj, hs⟩
  dsimp only at hj hs hlj ⊢
  subst hlj
  repeat refine c_seq ?_
  refine c_region ?_
  refine qm rfl rfl ?_
  refine step_pure rfl (pure_geq rfl rfl) ?_
  refine step_nil ?_
  repeat refine c_seq ?_
  refine c_cond rfl (fun h => ?_) (fun h => ?_)
  · have hlt : len < s := by have := of_decide_eq_true h; omega
    clear h
    have hbt := be_byte n s len hlt (by omega)
    have hsn := be_snoc n s len hlt
    have hu : IntKind.u64.wrap (8 * ((s : Int) - 1 - len)) = 8 * ((s : Int) - 1 - len) := by rw [IntKind.wrap_u64]; omega
    refine c_skip ?_
    repeat refine c_seq ?_
    refine c_block ?_
    repeat refine c_seq ?_
    refine c_region ?_
    refine qm rfl rfl ?_
    refine qm rfl rfl ?_
    refine qm rfl rfl ?_
    refine step_pure rfl (pure_mul64 rfl rfl (by omega) (by omega)) ?_
    refine step_as rfl (pure_conv rfl rfl rfl rfl) (show _ = Value.int .u64 (8 * ((s : Int) - 1 - len)) from by rw [hu]) ?_
    refine step_pure rfl (pure_shr rfl rfl (by omega)) ?_
    refine step_as rfl (pure_conv rfl rfl rfl rfl) (show _ = Value.int .u8 (n / 256 ^ (s - 1 - len) % 256) from by rw [hbt]) ?_
    refine step_buildSlice rfl rfl rfl rfl elem5 (by decide) (by decide) (fill_one .u8 _ rfl) (fun b21 => ?_)
    refine step_append 1 rfl rfl hs rfl rfl rfl rfl rfl elem5 rfl (by decide) rfl rfl rfl (src_own (j := 0) (sl_built ty5 5 b21 [.int .u8 (n / 256 ^ (s - 1 - len) % 256)] 1 rfl) rfl) (by intro v hv; simp at hv; subst hv; rfl) (by omega) (by omega) (fun base' cap' e' hs' => ?_)
    refine qa rfl rfl ?_
    refine step_nil ?_
    repeat refine c_seq ?_
    refine c_region ?_
    refine qm rfl rfl ?_
    refine step_pure rfl (pure_sub64 rfl rfl (by omega) (by omega)) ?_
    refine qa rfl rfl ?_
    refine step_nil ?_
    refine ⟨(⟨base', len + 1, cap', e'⟩, len + 1), ⟨hlt, rfl, ?_⟩, by dsimp only; omega, less_sub ⟨rfl, rfl, rfl, by show some (Value.int .i64 _) = some (Value.int .i64 _); congr 2; show (s : Int) - 1 - len - 1 = (s : Int) - 1 - ((len + 1 : Nat) : Int); omega, trivial⟩ (List.Sublist.cons _ (List.Sublist.refl _))⟩
    rw [hsn, ← row_app]
    exact hs'
  · have hjs : len = s := by have := of_decide_eq_false h; omega
    clear h
    subst hjs
    have hb0 := hbl len
    rw [List.take_of_length_le (by omega)] at hs
    refine c_exit ?_
    repeat refine c_seq ?_
    refine c_region ?_
    refine qm rfl rfl ?_
    refine step_nil ?_
    have hpatch : ∀ (t : Int), (len = 2 ∨ len = 4 ∨ len = 8) → t = tag len → ∃ b x tl R, base = some ⟨b, 0, none⟩ ∧ e = ⟨b, row (x :: tl) ++ R, 5⟩ ∧ IntKind.u8.wrap (x + t) = x + t ∧ tagged len (be n len) = (x + t) :: tl ∧
        (∀ c, c = row ((x + t) :: tl) ++ R → SlIs ty5 5 ⟨b, c, 5⟩ (some ⟨b, 0, none⟩) len cap (row ((x + t) :: tl))) := by
      intro t hl ht
      obtain ⟨_, hc, b, R, hb, he, hR⟩ := slis_form rfl hs (by omega)
      obtain ⟨s', rfl⟩ : ∃ s', len = s' + 1 := ⟨len - 1, by omega⟩
      have hd := hhd s' rfl
      refine ⟨b, n / 256 ^ s' % 256, be n s', R, hb, he, ?_, by rw [ht]; rfl, ?_⟩
      · rw [wrap_u8, ht]
        unfold tag
        repeat' split
        all_goals omega
      · rintro c rfl
        have hll : ((n / 256 ^ s' % 256 + t) :: be n s').length = s' + 1 := by rw [List.length_cons, be_len]
        have := slis_back (u := ty5) (eT := 5) (b := b) (cap := cap) (l := (n / 256 ^ s' % 256 + t) :: be n s') (R := R) rfl (by omega) (by omega)
        rw [hll] at this
        exact this
    repeat refine c_seq ?_
    refine c_block ?_
    repeat refine c_seq ?_
    refine c_region ?_
    refine step_pure rfl (pure_eql rfl rfl) ?_
    refine qa rfl rfl ?_
    refine step_nil ?_
    repeat refine c_seq ?_
    refine c_cond rfl (fun h => ?_) (fun h => ?_)
    · have h2 : len = 2 := by have := eq_of_beq h; omega
      obtain ⟨b, x, tl, R, rfl, rfl, hw, htg, hfin⟩ := hpatch 64 (.inl h2) (by rw [h2]; rfl)
      repeat refine c_seq ?_
      refine c_region ?_
      refine qm rfl rfl ?_
      refine qm rfl rfl ?_
      refine step_pure rfl (pure_ixs (off' := 0) rfl rfl rfl rfl rfl (by decide) (by omega) rfl) ?_
      refine step_pure rfl (pure_load (i := 0) rfl rfl rfl rfl rfl rfl) ?_
      refine step_as rfl (pure_add rfl rfl) (show _ = Value.int .u8 (x + 64) from by rw [hw]) ?_
      refine step_pure rfl (pure_ixs (off' := 0) rfl rfl rfl rfl rfl (by decide) (by omega) rfl) ?_
      refine step_store 0 rfl rfl rfl rfl rfl rfl rfl rfl (by simp [ints]) rfl ?_
      refine step_nil ?_
      repeat refine c_seq ?_
      refine c_region ?_
      refine qm rfl rfl ?_
      refine qa rfl rfl ?_
      refine step_nil ?_
      rw [htg]
      exact c_ret ⟨_, res_tmp Try.results47 rfl, [_], List.Sublist.refl _, _, _, _, rfl, rfl, hfin _ rfl⟩
    · have h2 : len ≠ 2 := by have := ne_of_beq_false h; omega
      clear h
      repeat refine c_seq ?_
      refine c_region ?_
      refine step_pure rfl (pure_eql rfl rfl) ?_
      refine qa rfl rfl ?_
      refine step_nil ?_
      repeat refine c_seq ?_
      refine c_cond rfl (fun h => ?_) (fun h => ?_)
      · have h4 : len = 4 := by have := eq_of_beq h; omega
        obtain ⟨b, x, tl, R, rfl, rfl, hw, htg, hfin⟩ := hpatch 128 (.inr (.inl h4)) (by rw [h4]; rfl)
        repeat refine c_seq ?_
        refine c_region ?_
        refine qm rfl rfl ?_
        refine qm rfl rfl ?_
        refine step_pure rfl (pure_ixs (off' := 0) rfl rfl rfl rfl rfl (by decide) (by omega) rfl) ?_
        refine step_pure rfl (pure_load (i := 0) rfl rfl rfl rfl rfl rfl) ?_
        refine step_as rfl (pure_add rfl rfl) (show _ = Value.int .u8 (x + 128) from by rw [hw]) ?_
        refine step_pure rfl (pure_ixs (off' := 0) rfl rfl rfl rfl rfl (by decide) (by omega) rfl) ?_
        refine step_store 0 rfl rfl rfl rfl rfl rfl rfl rfl (by simp [ints]) rfl ?_
        refine step_nil ?_
        repeat refine c_seq ?_
        refine c_region ?_
        refine qm rfl rfl ?_
        refine qa rfl rfl ?_
        refine step_nil ?_
        rw [htg]
        exact c_ret ⟨_, res_tmp Try.results47 rfl, [_], List.Sublist.refl _, _, _, _, rfl, rfl, hfin _ rfl⟩
      · have h4 : len ≠ 4 := by have := ne_of_beq_false h; omega
        clear h
        repeat refine c_seq ?_
        refine c_region ?_
        refine step_pure rfl (pure_eql rfl rfl) ?_
        refine qa rfl rfl ?_
        refine step_nil ?_
        repeat refine c_seq ?_
        refine c_cond rfl (fun h => ?_) (fun h => ?_)
        · have h8 : len = 8 := by have := eq_of_beq h; omega
          obtain ⟨b, x, tl, R, rfl, rfl, hw, htg, hfin⟩ := hpatch 192 (.inr (.inr h8)) (by rw [h8]; rfl)
          repeat refine c_seq ?_
          refine c_region ?_
          refine qm rfl rfl ?_
          refine qm rfl rfl ?_
          refine step_pure rfl (pure_ixs (off' := 0) rfl rfl rfl rfl rfl (by decide) (by omega) rfl) ?_
          refine step_pure rfl (pure_load (i := 0) rfl rfl rfl rfl rfl rfl) ?_
          refine step_as rfl (pure_add rfl rfl) (show _ = Value.int .u8 (x + 192) from by rw [hw]) ?_
          refine step_pure rfl (pure_ixs (off' := 0) rfl rfl rfl rfl rfl (by decide) (by omega) rfl) ?_
          refine step_store 0 rfl rfl rfl rfl rfl rfl rfl rfl (by simp [ints]) rfl ?_
          refine step_nil ?_
          repeat refine c_seq ?_
          refine c_region ?_
          refine qm rfl rfl ?_
          refine qa rfl rfl ?_
          refine step_nil ?_
          rw [htg]
          exact c_ret ⟨_, res_tmp Try.results47 rfl, [_], List.Sublist.refl _, _, _, _, rfl, rfl, hfin _ rfl⟩
        · have h8 : len ≠ 8 := by have := ne_of_beq_false h; omega
          clear h
          have htg : tagged len (be n len) = be n len := by
            have : tag len = 0 := by unfold tag; rw [if_neg h2, if_neg h4, if_neg h8]
            unfold tagged
            split
            · rename_i hx; rw [hx]
            · rename_i hx; rw [hx, this, Int.add_zero]
          refine c_skip ?_
          repeat refine c_seq ?_
          refine c_region ?_
          refine qm rfl rfl ?_
          refine qa rfl rfl ?_
          refine step_nil ?_
          rw [htg]
          exact c_ret ⟨_, res_tmp Try.results47 rfl, [e], List.Sublist.refl _, _, _, _, rfl, rfl, hs⟩
end Go.Proofs.Ythieegnhjoehbaa
/- Whether a frame may be: walked. -/
namespace Go.Proofs.Ythieegnhjoehbaa
open Go.RowKit Go.Vc
set_option linter.unusedVariables false
def inB (n lo hi : Int) : Bool := decide (lo ≤ n) && decide (n ≤ hi)
theorem within_any (n lo hi : Int) (w : World) : Gives tb 63 [.int .i64 n, .int .i64 lo, .int .i64 hi] w (.bool (inB n lo hi)) := by
  refine gives_of (fn := Try.f63) Try.func63 rfl Try.ntmps63 rfl ?_
  repeat refine c_seq ?_
  refine c_region ?_
  refine qa rfl rfl ?_
  refine step_nil ?_
  repeat refine c_seq ?_
  refine c_region ?_
  refine qm rfl rfl ?_
  refine qm rfl rfl ?_
  refine step_pure rfl (pure_geq rfl rfl) ?_
  refine qm rfl rfl ?_
  refine step_split (t := 10) rfl (fun h10 => ?_) (fun h10 => ?_)
  · refine qm rfl rfl ?_
    refine qm rfl rfl ?_
    refine step_pure rfl (pure_leq rfl rfl) ?_
    refine step_pure rfl (pure_pick_yes rfl rfl) ?_
    refine qa rfl rfl ?_
    refine step_nil ?_
    exact c_ret ⟨_, res_tmp Try.results63 rfl, by unfold inB; simp_all <;> omega⟩
  · refine qp rfl rfl rfl ?_
    refine qp rfl rfl rfl ?_
    refine qp rfl rfl rfl ?_
    refine step_pure rfl (pure_pick_no rfl rfl) ?_
    refine qa rfl rfl ?_
    refine step_nil ?_
    exact c_ret ⟨_, res_tmp Try.results63 rfl, by unfold inB; simp_all <;> omega⟩
def wantB (k : Int) : Bool := k == 3 || k == 5
def wantR (k : Int) : Bool := k == 2
def wantD (k : Int) : Bool := k == 3 || k == 4
theorem wants_any (k : Int) (w : World) : Gives tb 61 [.int .i64 k] w (.tuple #[.bool (wantB k), .bool (wantR k), .bool (wantD k)]) := by
  have res3 : ∀ {rs : Rs} {m : Mem} {v x y : Value}, Vc.look rs 2 = some v → Vc.look rs 3 = some x → Vc.look rs 4 = some y → ResIs tb Try.f61 rs m (.tuple #[v, x, y]) := by
    intro rs m v x y h1 h2 h3
    refine ⟨fun a w hr hh => ?_⟩
    have g1 := hr _ _ h1
    have g2 := hr _ _ h2
    have g3 := hr _ _ h3
    simp [results, Try.results61, Array.getD_eq_getD_getElem?, g1, g2, g3]
  refine gives_of (fn := Try.f61) Try.func61 rfl Try.ntmps61 rfl ?_
  repeat refine c_seq ?_
  refine c_region ?_
  refine qa rfl rfl ?_
  refine qa rfl rfl ?_
  refine qa rfl rfl ?_
  refine step_nil ?_
  repeat refine c_seq ?_
  refine c_region ?_
  refine qm rfl rfl ?_
  refine step_pure rfl (pure_eql rfl rfl) ?_
  refine qm rfl rfl ?_
  refine step_split (t := 7) rfl (fun h7 => ?_) (fun h7 => ?_)
  · refine qp rfl rfl rfl ?_
    refine qp rfl rfl rfl ?_
    refine step_pure rfl (pure_pick_yes rfl rfl) ?_
    refine qm rfl rfl ?_
    refine step_pure rfl (pure_eql rfl rfl) ?_
    refine qm rfl rfl ?_
    refine step_pure rfl (pure_eql rfl rfl) ?_
    refine qm rfl rfl ?_
    refine step_split (t := 15) rfl (fun h15 => ?_) (fun h15 => ?_)
    · refine qp rfl rfl rfl ?_
      refine qp rfl rfl rfl ?_
      refine step_pure rfl (pure_pick_yes rfl rfl) ?_
      refine qa rfl rfl ?_
      refine qa rfl rfl ?_
      refine qa rfl rfl ?_
      refine step_nil ?_
      exact c_ret ⟨_, res3 rfl rfl rfl, by unfold wantB wantR wantD; simp_all⟩
    · refine qm rfl rfl ?_
      refine step_pure rfl (pure_eql rfl rfl) ?_
      refine step_pure rfl (pure_pick_no rfl rfl) ?_
      refine qa rfl rfl ?_
      refine qa rfl rfl ?_
      refine qa rfl rfl ?_
      refine step_nil ?_
      exact c_ret ⟨_, res3 rfl rfl rfl, by unfold wantB wantR wantD; simp_all⟩
  · refine qm rfl rfl ?_
    refine step_pure rfl (pure_eql rfl rfl) ?_
    refine step_pure rfl (pure_pick_no rfl rfl) ?_
    refine qm rfl rfl ?_
    refine step_pure rfl (pure_eql rfl rfl) ?_
    refine qm rfl rfl ?_
    refine step_pure rfl (pure_eql rfl rfl) ?_
    refine qm rfl rfl ?_
    refine step_split (t := 15) rfl (fun h15 => ?_) (fun h15 => ?_)
    · refine qp rfl rfl rfl ?_
      refine qp rfl rfl rfl ?_
      refine step_pure rfl (pure_pick_yes rfl rfl) ?_
      refine qa rfl rfl ?_
      refine qa rfl rfl ?_
      refine qa rfl rfl ?_
      refine step_nil ?_
      exact c_ret ⟨_, res3 rfl rfl rfl, by unfold wantB wantR wantD; simp_all⟩
    · refine qm rfl rfl ?_
      refine step_pure rfl (pure_eql rfl rfl) ?_
      refine step_pure rfl (pure_pick_no rfl rfl) ?_
      refine qa rfl rfl ?_
      refine qa rfl rfl ?_
      refine qa rfl rfl ?_
      refine step_nil ?_
      exact c_ret ⟨_, res3 rfl rfl rfl, by unfold wantB wantR wantD; simp_all⟩
/-! ranges -/
def rgCells (rs : List (Int × Int)) : List Value := rs.flatMap fun r => [.int .i64 r.1, .int .i64 r.2]
theorem rgCells_len (rs : List (Int × Int)) : (rgCells rs).length = rs.length * 2 := by
  induction rs with
  | nil => rfl
  | cons r rs ih => simp [rgCells] at ih ⊢; omega
theorem rgCells_at (rs : List (Int × Int)) (i : Nat) (h : i < rs.length) : (rgCells rs)[i * 2 + 0]? = some (.int .i64 (rs.getD i (0, 0)).1) ∧ (rgCells rs)[i * 2 + 1]? = some (.int .i64 (rs.getD i (0, 0)).2) := by
  induction rs generalizing i with
  | nil => simp at h
  | cons r rs ih =>
    cases i with
    | zero => exact ⟨rfl, rfl⟩
    | succ i =>
      have := ih i (by simpa using h)
      rw [show (i + 1) * 2 + 0 = (i * 2 + 0) + 2 by omega, show (i + 1) * 2 + 1 = (i * 2 + 1) + 2 by omega]
      exact this
def M62 : Int := 4611686018427387903
def rgAt (rs : List (Int × Int)) (i : Nat) : Bool :=
  decide (0 ≤ (rs.getD i (0, 0)).1) && (inB (rs.getD i (0, 0)).2 (rs.getD i (0, 0)).1 M62 && (decide (i = 0) || decide ((rs.getD i (0, 0)).2 < (rs.getD (i - 1) (0, 0)).1 - 1)))
def rgOk (rs : List (Int × Int)) : Bool := inB rs.length 1 16 && (List.range rs.length).all (rgAt rs)
theorem rgOk_not {rs : List (Int × Int)} {i : Nat} (h : i < rs.length) (hz : rgAt rs i = false) : rgOk rs = false := by
  have : (List.range rs.length).all (rgAt rs) = false := by
    rw [← Bool.not_eq_true, List.all_eq_true]
    intro h1
    have := h1 i (List.mem_range.2 h)
    rw [hz] at this
    cases this
  unfold rgOk
  rw [this, Bool.and_false]
theorem rgOk_yes {rs : List (Int × Int)} (h0 : inB rs.length 1 16 = true) (h : ∀ j, j < rs.length → rgAt rs j = true) : rgOk rs = true := by
  unfold rgOk
  rw [h0, Bool.true_and, List.all_eq_true]
  exact fun j hj => h j (List.mem_range.1 hj)
set_option maxHeartbeats 1000000 in
theorem ranges_any (l : List (Int × Int)) (v : Value) (w : World) (hv : SlC (fun p x => w.cell? p = some x) 2 v l.length (rgCells l)) : Gives tb 62 [v] w (.bool (rgOk l)) := by
  have hv0 := hv
  obtain ⟨base0, cap0, rfl, hcap, hlen, hc⟩ := hv
  refine gives_of (fn := Try.f62) Try.func62 rfl Try.ntmps62 rfl ?_
  repeat refine c_seq ?_
  refine c_region ?_
  refine qa rfl rfl ?_
  refine step_nil ?_
  repeat refine c_seq ?_
  refine c_region ?_
  refine qm rfl rfl ?_
  refine step_pure rfl (pure_len_slice rfl rfl rfl) ?_
  refine step_gives rfl fun63 rfl (fun w _ _ => within_any _ _ _ w) ?_
  refine step_pure rfl (pure_not rfl) ?_
  refine step_nil ?_
  repeat refine c_seq ?_
  refine c_cond rfl (fun h => ?_) (fun h => ?_)
  · have h0 : inB l.length 1 16 = false := by simpa using h
    have hno : rgOk l = false := by unfold rgOk; rw [h0, Bool.false_and]
    rw [hno]
    repeat refine c_seq ?_
    refine c_region ?_
    refine qa rfl rfl ?_
    refine step_nil ?_
    exact c_ret ⟨_, res_tmp Try.results62 rfl, rfl⟩
  · have h0 : inB l.length 1 16 = true := by simpa using h
    clear h
    have hl16 : l.length ≤ 16 := by unfold inB at h0; simp at h0; omega
    refine c_skip ?_
    repeat refine c_seq ?_
    refine c_region ?_
    refine qm rfl rfl ?_
    refine step_pure rfl (pure_len_slice rfl rfl rfl) ?_
    refine qm rfl rfl ?_
    refine step_nil ?_
    repeat refine c_seq ?_
    refine c_block ?_
    repeat refine c_seq ?_
    refine c_loop (α := Nat) (fun i => [(0, .slice base0 l.length cap0), (9, .slice base0 l.length cap0), (10, .int .i64 l.length), (11, .int .i64 i)]) (fun _ => []) (fun i => i ≤ l.length ∧ ∀ j, j < i → rgAt l j = true) (fun i => l.length - i) 0
      ⟨Nat.zero_le _, fun j h => absurd h (Nat.not_lt_zero j)⟩ (less_of ⟨rfl, rfl, rfl, rfl, trivial⟩ rfl) ?_
    rintro i ⟨hi, hall⟩
    repeat refine c_seq ?_
    refine c_region ?_
    refine step_pure rfl (pure_lss rfl rfl) ?_
    refine step_nil ?_
    repeat refine c_seq ?_
    refine c_cond rfl (fun h => ?_) (fun h => ?_)
    · have hlt : i < l.length := by have := of_decide_eq_true h; omega
      clear h
      obtain ⟨p, cap', hq, hp⟩ := hv0.at (i := i) (by decide) hlt
      cases hq
      obtain ⟨hlo, hhi⟩ := rgCells_at l i hlt
      have clo := hp 0 _ hlo
      have chi := hp 1 _ hhi
      have cpr : 0 < i → w.cell? ((p.add ((i - 1) * 2)).add 0) = some (.int .i64 (l.getD (i - 1) (0, 0)).1) := fun hpos => by
        obtain ⟨p', cap'', hq', hp'⟩ := hv0.at (i := i - 1) (by decide) (by omega)
        cases hq'
        exact hp' 0 _ (rgCells_at l (i - 1) (by omega)).1
      have hno := fun hz => rgOk_not hlt hz
      have hrg : rgAt l i = (decide (0 ≤ (l.getD i (0, 0)).1) && (inB (l.getD i (0, 0)).2 (l.getD i (0, 0)).1 M62 && (decide (i = 0) || decide ((l.getD i (0, 0)).2 < (l.getD (i - 1) (0, 0)).1 - 1)))) := rfl
      have hpr : 0 < i → 0 ≤ (l.getD (i - 1) (0, 0)).1 ∧ (l.getD (i - 1) (0, 0)).1 ≤ 4611686018427387903 := fun hpos => by
        have := hall (i - 1) (by omega)
        unfold rgAt inB M62 at this
        simp at this
        simp
        omega
      have hcells : ∀ j x, [Value.int .i64 (l.getD i (0, 0)).1, .int .i64 (l.getD i (0, 0)).2][j]? = some x → Cel ⟨w, [], []⟩ ((p.add (i * 2)).add j) x := by
        intro j x hx
        refine ⟨?_, List.not_mem_nil⟩
        obtain _ | _ | j := j
        · cases hx; exact clo
        · cases hx; exact chi
        · cases hx
      generalize (l.getD i (0, 0)).1 = lo at *
      generalize (l.getD i (0, 0)).2 = hi' at *
      generalize (l.getD (i - 1) (0, 0)).1 = pr at *
      refine c_skip ?_
      repeat refine c_seq ?_
      refine c_block ?_
      repeat refine c_seq ?_
      refine c_region ?_
      refine qm rfl rfl ?_
      refine step_as rfl (pure_indexAddr_at rfl rfl rfl rfl rfl (by omega) (by omega)) (show _ = Value.pointer (some (p.add (i * 2))) from by show Value.pointer (some (p.add ((i : Int).toNat * 2))) = _; rw [Int.toNat_natCast]) ?_
      refine step_pure rfl (pure_cel_agg rfl rfl rfl rfl hcells) ?_
      refine step_alloc rfl zero110 (fun b4 => ?_)
      refine qa rfl rfl ?_
      refine step_store_agg 0 rfl rfl rfl (by intro v hv; simp at hv; rcases hv with rfl | rfl <;> rfl) rfl rfl rfl rfl (by show 2 ≤ 2; decide) (splice_all rfl) ?_
      refine step_nil ?_
      repeat refine c_seq ?_
      repeat refine c_seq ?_
      refine c_meet [(0, .slice (some p) l.length cap0), (9, .slice (some p) l.length cap0), (10, .int .i64 l.length), (11, .int .i64 i), (42, .bool (!rgAt l i))] [] ?_ ?_
      · repeat refine c_seq ?_
        refine d_region [1, 11, 17, 25, 33, 43, 49, 59, 67, 73, 81, 89, 97, 105, 113, 121, 131, 137, 145, 153, 161, 169, 179, 185, 193, 201, 209] follows (by kernel_rfl) ?_
        refine d_pure0 rfl rfl rfl (pure_fieldAddr rfl rfl rfl rfl rfl (by decide)) ?_
        refine d_pure1 rfl rfl rfl (pure_load (i := 0) rfl rfl rfl rfl rfl rfl) (by exact SubMem.refl _) ?_
        refine d_pure0 rfl rfl rfl (pure_lss rfl rfl) ?_
        refine qd rfl rfl rfl rfl ?_
        refine d_split (t := 19) rfl (fun h19 => ?_) (fun h19 => ?_)
        · refine d_pass rfl rfl rfl (fun h => by cases h) rfl rfl rfl ?_
          refine d_pass rfl rfl rfl (fun _ => (by exact SubMem.refl _)) rfl rfl rfl ?_
          refine d_pass rfl rfl rfl (fun h => by cases h) rfl rfl rfl ?_
          refine d_pass rfl rfl rfl (fun _ => (by exact SubMem.refl _)) rfl rfl rfl ?_
          refine d_pass rfl rfl rfl (fun _ => (by exact SubMem.refl _)) rfl rfl rfl ?_
          refine d_pass rfl rfl rfl (fun h => by cases h) rfl rfl rfl ?_
          refine d_pure0 rfl rfl rfl (pure_pick_yes rfl rfl) ?_
          refine qd rfl rfl rfl rfl ?_
          refine d_pass rfl rfl rfl (fun h => by cases h) rfl rfl rfl ?_
          refine d_pass rfl rfl rfl (fun h => by cases h) rfl rfl rfl ?_
          refine d_pass rfl rfl rfl (fun h => by cases h) rfl rfl rfl ?_
          refine d_pass rfl rfl rfl (fun h => by cases h) rfl rfl rfl ?_
          refine d_pass rfl rfl rfl (fun _ => (by exact SubMem.refl _)) rfl rfl rfl ?_
          refine d_pass rfl rfl rfl (fun h => by cases h) rfl rfl rfl ?_
          refine d_pass rfl rfl rfl (fun h => by cases h) rfl rfl rfl ?_
          refine d_pass rfl rfl rfl (fun h => by cases h) rfl rfl rfl ?_
          refine d_pass rfl rfl rfl (fun h => by cases h) rfl rfl rfl ?_
          refine d_pass rfl rfl rfl (fun h => by cases h) rfl rfl rfl ?_
          refine d_pass rfl rfl rfl (fun _ => (by exact SubMem.refl _)) rfl rfl rfl ?_
          refine d_pass rfl rfl rfl (fun h => by cases h) rfl rfl rfl ?_
          refine d_pass rfl rfl rfl (fun h => by cases h) rfl rfl rfl ?_
          refine d_pass rfl rfl rfl (fun h => by cases h) rfl rfl rfl ?_
          refine d_pure0 rfl rfl rfl (pure_pick_yes rfl rfl) ?_
          refine d_nil ?_
          refine less_sub ⟨rfl, rfl, rfl, rfl, ?_, trivial⟩ (List.nil_sublist _)
          refine congrArg some (congrArg Value.bool ?_)
          rw [hrg, Bool.eq_iff_iff]
          unfold M62
          simp_all <;> omega
        · refine d_pure0 rfl rfl rfl (pure_fieldAddr rfl rfl rfl rfl rfl (by decide)) ?_
          refine d_pure1 rfl rfl rfl (pure_load (i := 0) rfl rfl rfl rfl rfl rfl) (by exact SubMem.refl _) ?_
          refine d_pure0 rfl rfl rfl (pure_fieldAddr rfl rfl rfl rfl rfl (by decide)) ?_
          refine d_pure1 rfl rfl rfl (pure_load (i := 0) rfl rfl rfl rfl rfl rfl) (by exact SubMem.refl _) ?_
          refine d_gives rfl rfl rfl fun63 rfl (fun w _ _ => within_any _ _ _ w) (by exact SubMem.refl _) ?_
          refine d_pure0 rfl rfl rfl (pure_not rfl) ?_
          refine d_pure0 rfl rfl rfl (pure_pick_no rfl rfl) ?_
          refine qd rfl rfl rfl rfl ?_
          refine d_split (t := 27) rfl (fun h27 => ?_) (fun h27 => ?_)
          · refine d_pass rfl rfl rfl (fun h => by cases h) rfl rfl rfl ?_
            refine d_pass rfl rfl rfl (fun h => by cases h) rfl rfl rfl ?_
            refine d_pass rfl rfl rfl (fun h => by cases h) rfl rfl rfl ?_
            refine d_pass rfl rfl rfl (fun h => by cases h) rfl rfl rfl ?_
            refine d_pass rfl rfl rfl (fun _ => (by exact SubMem.refl _)) rfl rfl rfl ?_
            refine d_pass rfl rfl rfl (fun h => by cases h) rfl rfl rfl ?_
            refine d_pass rfl rfl rfl (fun h => by cases h) rfl rfl rfl ?_
            refine d_pass rfl rfl rfl (fun h => by cases h) rfl rfl rfl ?_
            refine d_pass rfl rfl rfl (fun h => by cases h) rfl rfl rfl ?_
            refine d_pass rfl rfl rfl (fun h => by cases h) rfl rfl rfl ?_
            refine d_pass rfl rfl rfl (fun _ => (by exact SubMem.refl _)) rfl rfl rfl ?_
            refine d_pass rfl rfl rfl (fun h => by cases h) rfl rfl rfl ?_
            refine d_pass rfl rfl rfl (fun h => by cases h) rfl rfl rfl ?_
            refine d_pass rfl rfl rfl (fun h => by cases h) rfl rfl rfl ?_
            refine d_pure0 rfl rfl rfl (pure_pick_yes rfl rfl) ?_
            refine d_nil ?_
            refine less_sub ⟨rfl, rfl, rfl, rfl, ?_, trivial⟩ (List.nil_sublist _)
            refine congrArg some (congrArg Value.bool ?_)
            rw [hrg, Bool.eq_iff_iff]
            unfold M62
            simp_all <;> omega
          · refine qd rfl rfl rfl rfl ?_
            refine d_as0 rfl rfl rfl (pure_gtr rfl rfl) (show _ = Value.bool (decide (0 < i)) from by congr 1; simp) ?_
            refine qd rfl rfl rfl rfl ?_
            refine d_split (t := 30) rfl (fun h30 => ?_) (fun h30 => ?_)
            · refine d_pure0 rfl rfl rfl (pure_fieldAddr rfl rfl rfl rfl rfl (by decide)) ?_
              refine d_pure1 rfl rfl rfl (pure_load (i := 0) rfl rfl rfl rfl rfl rfl) (by exact SubMem.refl _) ?_
              refine qd rfl rfl rfl rfl ?_
              refine qd rfl rfl rfl rfl ?_
              refine d_pure0 rfl rfl rfl (pure_sub64 rfl rfl (by omega) (by omega)) ?_
              refine d_as0 rfl rfl rfl (pure_indexAddr_at rfl rfl rfl rfl rfl (by have := of_decide_eq_true h30; omega) (by omega)) (show _ = Value.pointer (some (p.add ((i - 1) * 2))) from by have := of_decide_eq_true h30; show Value.pointer (some (p.add (((i : Int) - 1).toNat * 2))) = _; rw [show ((i : Int) - 1).toNat = i - 1 by omega]) ?_
              refine d_pure0 rfl rfl rfl (pure_fieldAddr_at rfl rfl rfl rfl rfl (by decide)) ?_
              refine d_pure1 rfl rfl rfl (pure_view_at rfl rfl rfl (cpr (of_decide_eq_true h30)) List.not_mem_nil) (by exact SubMem.refl _) ?_
              refine d_pure0 rfl rfl rfl (pure_sub64 rfl rfl (by have := hpr (of_decide_eq_true h30); omega) (by have := hpr (of_decide_eq_true h30); omega)) ?_
              refine d_pure0 rfl rfl rfl (pure_geq rfl rfl) ?_
              refine d_pure0 rfl rfl rfl (pure_pick_yes rfl rfl) ?_
              refine d_pure0 rfl rfl rfl (pure_pick_no rfl rfl) ?_
              refine d_nil ?_
              refine less_sub ⟨rfl, rfl, rfl, rfl, ?_, trivial⟩ (List.nil_sublist _)
              refine congrArg some (congrArg Value.bool ?_)
              rw [hrg, Bool.eq_iff_iff]
              unfold M62
              simp_all <;> omega
            · refine d_pass rfl rfl rfl (fun h => by cases h) rfl rfl rfl ?_
              refine d_pass rfl rfl rfl (fun _ => (by exact SubMem.refl _)) rfl rfl rfl ?_
              refine d_pass rfl rfl rfl (fun h => by cases h) rfl rfl rfl ?_
              refine d_pass rfl rfl rfl (fun h => by cases h) rfl rfl rfl ?_
              refine d_pass rfl rfl rfl (fun h => by cases h) rfl rfl rfl ?_
              refine d_pass rfl rfl rfl (fun h => by cases h) rfl rfl rfl ?_
              refine d_pass rfl rfl rfl (fun h => by cases h) rfl rfl rfl ?_
              refine d_pass rfl rfl rfl (fun _ => (by exact SubMem.refl _)) rfl rfl rfl ?_
              refine d_pass rfl rfl rfl (fun h => by cases h) rfl rfl rfl ?_
              refine d_pass rfl rfl rfl (fun h => by cases h) rfl rfl rfl ?_
              refine d_pure0 rfl rfl rfl (pure_pick_no rfl rfl) ?_
              refine d_pure0 rfl rfl rfl (pure_pick_no rfl rfl) ?_
              refine d_nil ?_
              refine less_sub ⟨rfl, rfl, rfl, rfl, ?_, trivial⟩ (List.nil_sublist _)
              refine congrArg some (congrArg Value.bool ?_)
              rw [hrg, Bool.eq_iff_iff]
              unfold M62
              simp_all <;> omega
      repeat refine c_seq ?_
      refine c_cond rfl (fun h => ?_) (fun h => ?_)
      · have hz : rgAt l i = false := by simpa using h
        rw [hno hz]
        repeat refine c_seq ?_
        refine c_region ?_
        refine qa rfl rfl ?_
        refine step_nil ?_
        exact c_ret ⟨_, res_tmp Try.results62 rfl, rfl⟩
      · have hz : rgAt l i = true := by simpa using h
        refine c_skip ?_
        repeat refine c_seq ?_
        refine c_region ?_
        refine step_pure rfl (pure_add64 rfl rfl (by omega) (by omega)) ?_
        refine qm rfl rfl ?_
        refine step_nil ?_
        refine ⟨i + 1, ⟨hlt, fun j hj => ?_⟩, by omega, less_of ⟨rfl, rfl, rfl, rfl, trivial⟩ rfl⟩
        by_cases hji : j = i
        · rw [hji]; exact hz
        · exact hall j (by omega)
    · have hie : i = l.length := by have := of_decide_eq_false h; omega
      clear h
      subst hie
      rw [rgOk_yes h0 hall]
      refine c_exit ?_
      repeat refine c_seq ?_
      refine c_region ?_
      refine qa rfl rfl ?_
      refine step_nil ?_
      exact c_ret ⟨_, res_tmp Try.results62 rfl, rfl⟩
end Go.Proofs.Ythieegnhjoehbaa
