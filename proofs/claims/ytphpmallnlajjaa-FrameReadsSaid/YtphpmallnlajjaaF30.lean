/- The document's numbers, read: walked. -/
import Derived.Test.YtphpmallnlajjaaF4
import Derived.Test.YtphpmallnlajjaaF2
namespace Go.Proofs.Ytphpmallnlajjaa
open Go.RowKit Go.Vc
set_option linter.unusedVariables false
set_option maxHeartbeats 1000000 in
theorem rget_any (b : List Int) (v : Value) (w : World) (hv : SlV w v (row b)) (hb : Bytes b) (hl : b.length ≤ 140737488355328) :
    Gives tb 39 [v] w (.tuple #[.int .i64 (gN b), .int .i64 (gS b), .int .i64 (gE b)]) := by
  obtain ⟨base0, cap0, rfl, hc⟩ := hv.is
  rw [row_len] at hv ⊢
  have hroom := hv.room _ _ _ rfl
  have res3 : ∀ {rs : Rs} {m : Mem} {v x y : Value}, Vc.look rs 2 = some v → Vc.look rs 3 = some x → Vc.look rs 4 = some y → ResIs tb Try.f39 rs m (.tuple #[v, x, y]) := by
    intro rs m v x y h1 h2 h3
    refine ⟨fun a w hr hh => ?_⟩
    have g1 := hr _ _ h1
    have g2 := hr _ _ h2
    have g3 := hr _ _ h3
    simp [results, Try.results39, Array.getD_eq_getD_getElem?, g1, g2, g3]
  refine gives_of (fn := Try.f39) Try.func39 rfl Try.ntmps39 rfl ?_
  repeat refine c_seq ?_
  refine c_region ?_
  refine step_pure rfl (pure_assign rfl) ?_
  refine step_pure rfl (pure_assign rfl) ?_
  refine step_pure rfl (pure_assign rfl) ?_
  refine step_nil ?_
  repeat refine c_seq ?_
  refine c_region ?_
  refine step_pure rfl (pure_move rfl) ?_
  refine step_pure rfl (pure_len_slice rfl rfl rfl) ?_
  refine step_pure rfl (pure_eql rfl rfl) ?_
  refine step_nil ?_
  repeat refine c_seq ?_
  refine c_cond rfl (fun h => ?_) (fun h => ?_)
  · have h0 : b = [] := List.eq_nil_of_length_eq_zero (by have := eq_of_beq h; omega)
    repeat refine c_seq ?_
    refine c_region ?_
    refine step_pure rfl (pure_assign rfl) ?_
    refine step_pure rfl (pure_assign rfl) ?_
    refine step_pure rfl (pure_assign rfl) ?_
    refine step_nil ?_
    refine c_ret ⟨_, res3 rfl rfl rfl, ?_⟩
    rw [h0]; rfl
  have h0 : b.length ≠ 0 := by have := ne_of_beq_false h; omega
  clear h
  obtain ⟨p, rfl, hp⟩ := hc (by intro h; have := row_len b; rw [h] at this; simp at this; omega)
  obtain ⟨x, r, rfl⟩ : ∃ x r, b = x :: r := by cases b with
    | nil => simp at h0
    | cons x r => exact ⟨x, r, rfl⟩
  have hx := hb x (.head _)
  have hr : Bytes r := fun y hy => hb y (.tail _ hy)
  obtain ⟨k, hk, hk4⟩ : ∃ k : Nat, x / 64 = k ∧ k < 4 := ⟨(x / 64).toNat, by omega, by omega⟩
  have hcell0 : w.cell? (p.add 0) = some (.int .u8 x) := hp 0 _ rfl
  have hpow : ∀ j : Nat, j ≤ k → (2 : Nat) ^ j = 1 ∨ (2 : Nat) ^ j = 2 ∨ (2 : Nat) ^ j = 4 ∨ (2 : Nat) ^ j = 8 := by
    intro j hj
    obtain rfl | rfl | rfl | rfl : j = 0 ∨ j = 1 ∨ j = 2 ∨ j = 3 := by omega
    all_goals decide
  have hgt : gt (x :: r) = if (2 : Nat) ^ k ≤ r.length + 1 then (if vsize (fold (x % 64) (r.take (2 ^ k - 1))) = 2 ^ k then some (fold (x % 64) (r.take (2 ^ k - 1)), 2 ^ k) else none) else none := by
    rw [show k = (x / 64).toNat by omega]; rfl
  refine c_skip ?_
  repeat refine c_seq ?_
  refine c_region ?_
  refine step_pure rfl (pure_assign rfl) ?_
  refine step_nil ?_
  repeat refine c_seq ?_
  refine c_region ?_
  refine step_pure rfl (pure_assign rfl) ?_
  refine step_nil ?_
  repeat refine c_seq ?_
  refine c_block ?_
  repeat refine c_seq ?_
  refine c_loop (α := Nat) (fun i => [(0, .slice (some p) (x :: r).length cap0), (5, .int .i64 ((2 ^ i : Nat) : Int)), (6, .int .i64 i)]) (fun _ => []) (fun i => i ≤ k) (fun i => k - i) 0 (Nat.zero_le _) (less_regs ⟨rfl, rfl, rfl, trivial⟩) ?_
  intro i hi
  have h2i := hpow i hi
  repeat refine c_seq ?_
  refine c_region ?_
  refine step_pure rfl (pure_move rfl) ?_
  refine step_pure rfl (pure_move rfl) ?_
  refine step_pure rfl (pure_indexAddr_at rfl rfl rfl rfl rfl (by decide) (by simp)) ?_
  refine step_pure rfl (pure_view_at rfl rfl rfl hcell0 List.not_mem_nil) ?_
  refine step_as rfl (pure_conv rfl rfl rfl rfl) (show _ = Value.int .i64 x from by rw [wrap_i64 (by omega) (by omega)]) ?_
  refine step_as rfl (pure_quo_pos rfl rfl (by omega) (by omega) (by decide)) (show _ = Value.int .i64 (k : Int) from by rw [hk]) ?_
  refine step_pure rfl (pure_lss rfl rfl) ?_
  refine step_nil ?_
  repeat refine c_seq ?_
  refine c_cond rfl (fun h => ?_) (fun h => ?_)
  · have hlt : i < k := by have := of_decide_eq_true h; omega
    clear h
    refine c_skip ?_
    repeat refine c_seq ?_
    refine c_block ?_
    have h2s : (2 : Nat) ^ (i + 1) = 2 * 2 ^ i := by rw [Nat.pow_succ, Nat.mul_comm]
    repeat refine c_seq ?_
    refine c_region ?_
    refine step_pure rfl (pure_move rfl) ?_
    refine step_as rfl (pure_mul64 rfl rfl (by omega) (by omega)) (show _ = Value.int .i64 ((2 ^ (i + 1) : Nat) : Int) from by rw [h2s]; congr 1) ?_
    refine step_pure rfl (pure_assign rfl) ?_
    refine step_nil ?_
    repeat refine c_seq ?_
    refine c_region ?_
    refine step_pure rfl (pure_move rfl) ?_
    first | refine step_pure rfl (pure_add64 rfl rfl (by omega) (by omega)) ?_ | refine step_pure rfl (pure_add rfl rfl) ?_
    refine step_pure rfl (pure_assign rfl) ?_
    refine step_nil ?_
    exact ⟨i + 1, by omega, by omega, less_regs ⟨rfl, rfl, rfl, trivial⟩⟩
  have hik : i = k := by have := of_decide_eq_false h; omega
  subst hik
  clear h
  refine c_exit ?_
  generalize hs : (2 : Nat) ^ i = s at *
  repeat refine c_seq ?_
  refine c_region ?_
  refine step_pure rfl (pure_move rfl) ?_
  refine step_pure rfl (pure_len_slice rfl rfl rfl) ?_
  refine step_pure rfl (pure_move rfl) ?_
  refine step_pure rfl (pure_lss rfl rfl) ?_
  refine step_nil ?_
  repeat refine c_seq ?_
  refine c_cond rfl (fun h => ?_) (fun h => ?_)
  · have hlt : ¬ s ≤ r.length + 1 := by have := of_decide_eq_true h; simp only [List.length_cons] at this; omega
    repeat refine c_seq ?_
    refine c_region ?_
    refine step_pure rfl (pure_assign rfl) ?_
    refine step_pure rfl (pure_assign rfl) ?_
    refine step_pure rfl (pure_assign rfl) ?_
    refine step_nil ?_
    refine c_ret ⟨_, res3 rfl rfl rfl, ?_⟩
    unfold gN gS gE
    rw [hgt, if_neg hlt]
    rfl
  have hle : s ≤ r.length + 1 := by have := of_decide_eq_false h; simp only [List.length_cons] at this; omega
  clear h
  rw [if_pos hle] at hgt
  refine c_skip ?_
  have htb : Bytes (r.take (s - 1)) := fun y hy => hr y (List.mem_of_mem_take hy)
  have htl : (r.take (s - 1)).length = s - 1 := by rw [List.length_take]; omega
  have hcl : ∀ j, j < s - 1 → w.cell? (p.add (j + 1)) = some (.int .u8 ((r.take (s - 1)).getD j 0)) := by
    intro j hj
    refine hp (j + 1) _ ?_
    show (row r)[j]? = _
    rw [row_get r j (by omega), List.getD_eq_getElem?_getD, List.getD_eq_getElem?_getD, List.getElem?_take, if_pos hj]
  generalize r.take (s - 1) = tl at *
  repeat refine c_seq ?_
  refine c_region ?_
  refine step_pure rfl (pure_move rfl) ?_
  refine step_pure rfl (pure_indexAddr_at rfl rfl rfl rfl rfl (by decide) (by simp)) ?_
  refine step_pure rfl (pure_view_at rfl rfl rfl hcell0 List.not_mem_nil) ?_
  refine step_as rfl (pure_conv rfl rfl rfl rfl) (show _ = Value.int .i64 x from by rw [wrap_i64 (by omega) (by omega)]) ?_
  refine step_pure rfl (pure_rem_pos rfl rfl (by omega) (by decide)) ?_
  refine step_pure rfl (pure_assign rfl) ?_
  refine step_nil ?_
  repeat refine c_seq ?_
  refine c_region ?_
  refine step_pure rfl (pure_assign rfl) ?_
  refine step_nil ?_
  repeat refine c_seq ?_
  refine c_block ?_
  repeat refine c_seq ?_
  refine c_loop (α := Nat) (fun i => [(0, .slice (some p) (x :: r).length cap0), (5, .int .i64 (s : Int)), (7, .int .i64 (fold (x % 64) (tl.take i))), (8, .int .i64 ((i + 1 : Nat) : Int))])
    (fun _ => []) (fun i => i ≤ s - 1) (fun i => s - 1 - i) 0 (Nat.zero_le _) (less_regs ⟨rfl, rfl, rfl, rfl, trivial⟩) ?_
  intro j hj
  repeat refine c_seq ?_
  refine c_region ?_
  refine step_pure rfl (pure_move rfl) ?_
  refine step_pure rfl (pure_move rfl) ?_
  refine step_pure rfl (pure_lss rfl rfl) ?_
  refine step_nil ?_
  repeat refine c_seq ?_
  refine c_cond rfl (fun h => ?_) (fun h => ?_)
  · have hlt : j < s - 1 := by have := of_decide_eq_true h; omega
    clear h
    have hci := hcl j hlt
    have hby := htb.at j
    have hfl := fold_lt (tl.take j) (fun y hy => htb y (List.mem_of_mem_take hy)) (x % 64) (by omega)
    have hfn := fold_snoc (x % 64) tl j (by omega)
    have hbd : (x % 64 + 1) * 256 ^ (tl.take j).length ≤ 18014398509481984 := by
      have h1 : (256 : Int) ^ (tl.take j).length ≤ 256 ^ 6 := by
        have : (tl.take j).length ≤ 6 := by rw [List.length_take]; omega
        exact (show ∀ k, k ≤ 6 → (256 : Int) ^ k ≤ 256 ^ 6 by decide) _ this
      have h2 : (x % 64 + 1) * 256 ^ (tl.take j).length ≤ (x % 64 + 1) * 256 ^ 6 := Int.mul_le_mul_of_nonneg_left h1 (by omega)
      have h3 : (x % 64 + 1) * 256 ^ 6 ≤ 64 * 256 ^ 6 := Int.mul_le_mul_of_nonneg_right (by omega) (by decide)
      exact Int.le_trans (Int.le_trans h2 h3) (by decide)
    generalize fold (x % 64) (tl.take j) = N at *
    refine c_skip ?_
    repeat refine c_seq ?_
    refine c_block ?_
    repeat refine c_seq ?_
    refine c_region ?_
    refine step_pure rfl (pure_move rfl) ?_
    refine step_as rfl (pure_mul64 rfl rfl (by omega) (by omega)) (show _ = Value.int .i64 (N * 256) from by rw [Int.mul_comm]) ?_
    refine step_pure rfl (pure_move rfl) ?_
    refine step_pure rfl (pure_move rfl) ?_
    refine step_as rfl (pure_indexAddr_at rfl rfl rfl rfl rfl (by omega) (by simp only [List.length_cons]; omega)) (show _ = Value.pointer (some (p.add (j + 1))) from by show Value.pointer (some (p.add (((j + 1 : Nat) : Int).toNat * 1))) = _; rw [Int.toNat_natCast, Nat.mul_one]) ?_
    refine step_pure rfl (pure_view_at rfl rfl rfl hci List.not_mem_nil) ?_
    refine step_as rfl (pure_conv rfl rfl rfl rfl) (show _ = Value.int .i64 (tl.getD j 0) from by rw [wrap_i64 (by omega) (by omega)]) ?_
    refine step_as rfl (pure_add64 rfl rfl (by omega) (by omega)) (show _ = Value.int .i64 (N * 256 + tl.getD j 0) from rfl) ?_
    refine step_pure rfl (pure_assign rfl) ?_
    refine step_nil ?_
    repeat refine c_seq ?_
    refine c_region ?_
    refine step_pure rfl (pure_move rfl) ?_
    refine step_as rfl (pure_add64 rfl rfl (by omega) (by omega)) (show _ = Value.int .i64 ((j + 1 + 1 : Nat) : Int) from rfl) ?_
    refine step_pure rfl (pure_assign rfl) ?_
    refine step_nil ?_
    exact ⟨j + 1, by omega, by omega, less_regs ⟨rfl, rfl, by show some (Value.int .i64 (N * 256 + tl.getD j 0)) = _; rw [hfn], rfl, trivial⟩⟩
  have hjs : j = s - 1 := by have := of_decide_eq_false h; omega
  clear h
  have hte : tl.take j = tl := List.take_of_length_le (by omega)
  rw [hte]
  refine c_exit ?_
  repeat refine c_seq ?_
  refine c_region ?_
  refine step_pure rfl (pure_move rfl) ?_
  refine step_gives rfl fun42 rfl (fun w _ _ => rsize_any _ w) ?_
  refine step_pure rfl (pure_move rfl) ?_
  refine step_pure rfl (pure_neq rfl rfl) ?_
  refine step_nil ?_
  repeat refine c_seq ?_
  refine c_cond rfl (fun h => ?_) (fun h => ?_)
  · have hne : vsize (fold (x % 64) tl) ≠ s := fun h' => by rw [h'] at h; simp at h
    rw [if_neg hne] at hgt
    repeat refine c_seq ?_
    refine c_region ?_
    refine step_pure rfl (pure_assign rfl) ?_
    refine step_pure rfl (pure_assign rfl) ?_
    refine step_pure rfl (pure_assign rfl) ?_
    refine step_nil ?_
    refine c_ret ⟨_, res3 rfl rfl rfl, ?_⟩
    unfold gN gS gE
    rw [hgt]
    rfl
  · have heq : vsize (fold (x % 64) tl) = s := by
      have := h
      simp at this
      omega
    rw [if_pos heq] at hgt
    refine c_skip ?_
    repeat refine c_seq ?_
    refine c_region ?_
    refine step_pure rfl (pure_move rfl) ?_
    refine step_pure rfl (pure_move rfl) ?_
    refine step_pure rfl (pure_assign rfl) ?_
    refine step_pure rfl (pure_assign rfl) ?_
    refine step_pure rfl (pure_assign rfl) ?_
    refine step_nil ?_
    refine c_ret ⟨_, res3 rfl rfl rfl, ?_⟩
    unfold gN gS gE
    rw [hgt]
    rfl
end Go.Proofs.Ytphpmallnlajjaa
