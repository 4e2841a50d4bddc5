/- The program's numbers, walked: Get, Join. -/
import Derived.Test.YtphpmallnlajjaaF1
namespace Go.Proofs.Ytphpmallnlajjaa
open Go.RowKit Go.Vc
set_option linter.unusedVariables false

set_option maxRecDepth 100000 in
theorem and63 : ∀ n : Nat, n < 256 → bits .and .u8 (n : Int) 63 = (n : Int) % 64 := by decide +kernel
theorem and63_is {x : Int} (h : 0 ≤ x ∧ x < 256) : bits .and .u8 x 63 = x % 64 := by
  have := and63 x.toNat (by omega)
  rw [show ((x.toNat : Nat) : Int) = x by omega] at this
  exact this
theorem or_byte (a x : Int) (ha : 0 ≤ a) (ha2 : a < 18014398509481984) (hx : 0 ≤ x) (hx2 : x < 256) : bits .or .i64 (a * 256) x = a * 256 + x := by
  obtain ⟨A, rfl⟩ := Int.eq_ofNat_of_zero_le ha
  obtain ⟨X, rfl⟩ := Int.eq_ofNat_of_zero_le hx
  show IntKind.i64.wrap ((BitVec.ofInt 64 ((A : Int) * 256) ||| BitVec.ofInt 64 (X : Int)).toNat : Int) = _
  have e1 : (BitVec.ofInt 64 ((A : Int) * 256)).toNat = A * 256 := by
    rw [BitVec.toNat_ofInt]; omega
  have e2 : (BitVec.ofInt 64 (X : Int)).toNat = X := by
    rw [BitVec.toNat_ofInt]; omega
  rw [BitVec.toNat_or, e1, e2]
  have e3 := Nat.shiftLeft_add_eq_or_of_lt (b := X) (i := 8) (by omega) A
  rw [Nat.shiftLeft_eq] at e3
  rw [show A * 256 = A * 2 ^ 8 from rfl, ← e3, wrap_i64 (by omega) (by omega)]
  omega
theorem fold_lt : ∀ (l : List Int), Bytes l → ∀ a, 0 ≤ a → 0 ≤ fold a l ∧ fold a l < (a + 1) * 256 ^ l.length := by
  intro l hb a ha
  have h1 := fold_in l hb
  rw [fold_shift]
  have hP := pow_pos l.length
  generalize (256 : Int) ^ l.length = P at *
  rw [Int.add_mul]
  have := Int.mul_nonneg ha (Int.le_of_lt hP)
  omega
theorem fold_snoc (a : Int) (l : List Int) (i : Nat) (h : i < l.length) : fold a (l.take (i + 1)) = fold a (l.take i) * 256 + l.getD i 0 := by
  rw [List.take_succ_eq_append_getElem h]
  unfold fold
  rw [List.foldl_append]
  simp [List.getD_eq_getElem?_getD, List.getElem?_eq_getElem h]
def gN (b : List Int) : Int := ((gt b).map (·.1)).getD 0
def gS (b : List Int) : Nat := ((gt b).map (·.2)).getD 0
def gE (b : List Int) : Int := if (gt b).isNone then 10 else 0

set_option maxHeartbeats 1000000 in
theorem get_any (b : List Int) (v : Value) (w : World) (hv : SlV w v (row b)) (hb : Bytes b) (hl : b.length ≤ 140737488355328) :
    Gives tb 43 [v] w (.tuple #[.int .i64 (gN b), .int .i64 (gS b), .int .i64 (gE b)]) := by
  obtain ⟨base0, cap0, rfl, hc⟩ := hv.is
  rw [row_len] at hv ⊢
  have hroom := hv.room _ _ _ rfl
  have res3 : ∀ {rs : Rs} {m : Mem} {v x y : Value}, Vc.look rs 2 = some v → Vc.look rs 3 = some x → Vc.look rs 4 = some y → ResIs tb Try.f43 rs m (.tuple #[v, x, y]) := by
    intro rs m v x y h1 h2 h3
    refine ⟨fun a w hr hh => ?_⟩
    have g1 := hr _ _ h1
    have g2 := hr _ _ h2
    have g3 := hr _ _ h3
    simp [results, Try.results43, Array.getD_eq_getD_getElem?, g1, g2, g3]
  refine gives_of (fn := Try.f43) Try.func43 rfl Try.ntmps43 rfl ?_
  repeat refine c_seq ?_
  refine c_region ?_
  refine step_pure rfl (pure_assign rfl) ?_
  refine step_pure rfl (pure_assign rfl) ?_
  refine step_pure rfl (pure_assign rfl) ?_
  refine step_nil ?_
  repeat refine c_seq ?_
  refine c_region ?_
  refine step_pure rfl (pure_move rfl) ?_
  refine step_pure rfl (pure_len_slice rfl rfl rfl) ?_
  refine step_pure rfl (pure_eql rfl rfl) ?_
  refine step_nil ?_
  repeat refine c_seq ?_
  refine c_cond rfl (fun h => ?_) (fun h => ?_)
  · have h0 : b = [] := List.eq_nil_of_length_eq_zero (by have := eq_of_beq h; omega)
    repeat refine c_seq ?_
    refine c_region ?_
    refine step_pure rfl (pure_assign rfl) ?_
    refine step_pure rfl (pure_assign rfl) ?_
    refine step_pure rfl (pure_assign rfl) ?_
    refine step_nil ?_
    refine c_ret ⟨_, res3 rfl rfl rfl, ?_⟩
    rw [h0]; rfl
  · have h0 : b.length ≠ 0 := by have := ne_of_beq_false h; omega
    clear h
    obtain ⟨p, rfl, hp⟩ := hc (by intro h; have := row_len b; rw [h] at this; simp at this; omega)
    obtain ⟨x, r, rfl⟩ : ∃ x r, b = x :: r := by cases b with
      | nil => simp at h0
      | cons x r => exact ⟨x, r, rfl⟩
    have hx := hb x (.head _)
    have hr : Bytes r := fun y hy => hb y (.tail _ hy)
    obtain ⟨k, hk, hk4⟩ : ∃ k : Nat, (x / 64).toNat = k ∧ k < 4 := ⟨_, rfl, by omega⟩
    have hcell0 : w.cell? (p.add 0) = some (.int .u8 x) := hp 0 _ rfl
    have h2k : (2 : Nat) ^ k = 1 ∨ (2 : Nat) ^ k = 2 ∨ (2 : Nat) ^ k = 4 ∨ (2 : Nat) ^ k = 8 := by
      obtain rfl | rfl | rfl | rfl : k = 0 ∨ k = 1 ∨ k = 2 ∨ k = 3 := by omega
      all_goals decide
    have hgt : gt (x :: r) = if (2 : Nat) ^ k ≤ r.length + 1 then (if vsize (fold (x % 64) (r.take (2 ^ k - 1))) = 2 ^ k then some (fold (x % 64) (r.take (2 ^ k - 1)), 2 ^ k) else none) else none := by
      rw [← hk]; rfl
    have hshl : IntKind.i64.wrap (1 * 2 ^ min (x / 2 ^ min (6 : Int).toNat IntKind.u8.bits).toNat IntKind.i64.bits) = ((2 ^ k : Nat) : Int) := by
      have e : (x / 2 ^ min (6 : Int).toNat IntKind.u8.bits).toNat = k := hk
      rw [e, show min k IntKind.i64.bits = k from by show min k 64 = k; omega]
      obtain rfl | rfl | rfl | rfl : k = 0 ∨ k = 1 ∨ k = 2 ∨ k = 3 := by omega
      all_goals decide
    refine c_skip ?_
    repeat refine c_seq ?_
    refine c_region ?_
    refine step_pure rfl (pure_move rfl) ?_
    refine step_pure rfl (pure_indexAddr_at rfl rfl rfl rfl rfl (by decide) (by simp)) ?_
    refine step_pure rfl (pure_view_at rfl rfl rfl hcell0 List.not_mem_nil) ?_
    first | refine step_pure rfl (pure_shr rfl rfl (by decide)) ?_ | refine step_pure rfl (pure_shr rfl rfl (by omega)) ?_
    refine step_as rfl (pure_shl rfl rfl (by show 0 ≤ x / 2 ^ min (6 : Int).toNat IntKind.u8.bits; exact Int.ediv_nonneg hx.1 (by decide))) (show _ = Value.int .i64 ((2 ^ k : Nat) : Int) from by rw [hshl]) ?_
    refine step_pure rfl (pure_assign rfl) ?_
    refine step_nil ?_
    clear hshl
    generalize hs : (2 : Nat) ^ k = s at *
    repeat refine c_seq ?_
    refine c_region ?_
    refine step_pure rfl (pure_move rfl) ?_
    refine step_pure rfl (pure_move rfl) ?_
    refine step_pure rfl (pure_len_slice rfl rfl rfl) ?_
    refine step_pure rfl (pure_gtr rfl rfl) ?_
    refine step_nil ?_
    repeat refine c_seq ?_
    refine c_cond rfl (fun h => ?_) (fun h => ?_)
    · have hlt : ¬ s ≤ r.length + 1 := by have := of_decide_eq_true h; simp only [List.length_cons] at this; omega
      repeat refine c_seq ?_
      refine c_region ?_
      refine step_pure rfl (pure_assign rfl) ?_
      refine step_pure rfl (pure_assign rfl) ?_
      refine step_pure rfl (pure_assign rfl) ?_
      refine step_nil ?_
      refine c_ret ⟨_, res3 rfl rfl rfl, ?_⟩
      unfold gN gS gE
      rw [hgt, if_neg hlt]
      rfl
    · have hle : s ≤ r.length + 1 := by have := of_decide_eq_false h; simp only [List.length_cons] at this; omega
      clear h
      rw [if_pos hle] at hgt
      have hsub : SlV w (subS (some p) cap0 1 1 s) (row (r.take (s - 1))) := by
        have := slv_sub (lo := 1) (hi := s) hv (by omega) (by simp only [List.length_cons]; omega)
        rw [ints_sub] at this
        exact this
      obtain ⟨base1, cap1, hq, hc1⟩ := hsub.is
      have htl : (r.take (s - 1)).length = s - 1 := by rw [List.length_take]; omega
      have htb : Bytes (r.take (s - 1)) := fun y hy => hr y (List.mem_of_mem_take hy)
      rw [row_len, htl] at hq
      generalize r.take (s - 1) = tl at *
      refine c_skip ?_
      repeat refine c_seq ?_
      refine c_region ?_
      refine step_pure rfl (pure_move rfl) ?_
      refine step_pure rfl (pure_indexAddr_at rfl rfl rfl rfl rfl (by decide) (by simp)) ?_
      refine step_pure rfl (pure_view_at rfl rfl rfl hcell0 List.not_mem_nil) ?_
      refine step_as rfl (pure_and rfl rfl) (show _ = Value.int .u8 (x % 64) from by rw [and63_is hx]) ?_
      refine step_as rfl (pure_conv rfl rfl rfl rfl) (show _ = Value.int .i64 (x % 64) from by rw [wrap_i64 (by omega) (by omega)]) ?_
      refine step_pure rfl (pure_assign rfl) ?_
      refine step_nil ?_
      repeat refine c_seq ?_
      refine c_region ?_
      refine step_pure rfl (pure_move rfl) ?_
      refine step_pure rfl (pure_move rfl) ?_
      refine step_as rfl (pure_sub_both rfl rfl rfl rfl rfl rfl (by decide) (by omega) (by simp only [List.length_cons] at hroom; omega)) (show _ = Value.slice base1 (s - 1) cap1 from by rw [← hq]; show subS (some p) cap0 1 (1 : Int).toNat (s : Int).toNat = _; rw [Int.toNat_natCast]; rfl) ?_
      refine step_pure rfl (pure_len_slice rfl rfl rfl) ?_
      refine step_pure rfl (pure_move rfl) ?_
      refine step_nil ?_
      repeat refine c_seq ?_
      refine c_block ?_
      repeat refine c_seq ?_
      refine c_loop (α := Nat) (fun i => [(2, .int .i64 (fold (x % 64) (tl.take i))), (3, .int .i64 s), (26, .slice base1 (s - 1) cap1), (27, .int .i64 ((s - 1 : Nat) : Int)), (28, .int .i64 i)])
        (fun _ => []) (fun i => i ≤ s - 1) (fun i => s - 1 - i) 0 (Nat.zero_le _) (less_regs ⟨rfl, rfl, rfl, rfl, rfl, trivial⟩) ?_
      intro i hi
      repeat refine c_seq ?_
      refine c_region ?_
      refine step_pure rfl (pure_lss rfl rfl) ?_
      refine step_nil ?_
      repeat refine c_seq ?_
      refine c_cond rfl (fun h => ?_) (fun h => ?_)
      · have hlt : i < s - 1 := by have := of_decide_eq_true h; omega
        clear h
        obtain ⟨q, rfl, hcq⟩ := hc1 (by intro h; have := row_len tl; rw [h] at this; simp at this; omega)
        have hci := hcq i _ (row_get tl i (by omega))
        have hby := htb.at i
        have hfl := fold_lt (tl.take i) (fun y hy => htb y (List.mem_of_mem_take hy)) (x % 64) (by omega)
        have hfn := fold_snoc (x % 64) tl i (by omega)
        have hbd : (x % 64 + 1) * 256 ^ (tl.take i).length ≤ 18014398509481984 := by
          have h1 : (256 : Int) ^ (tl.take i).length ≤ 256 ^ 6 := by
            have : (tl.take i).length ≤ 6 := by rw [List.length_take]; omega
            exact (show ∀ k, k ≤ 6 → (256 : Int) ^ k ≤ 256 ^ 6 by decide) _ this
          have h2 : (x % 64 + 1) * 256 ^ (tl.take i).length ≤ (x % 64 + 1) * 256 ^ 6 := Int.mul_le_mul_of_nonneg_left h1 (by omega)
          have h3 : (x % 64 + 1) * 256 ^ 6 ≤ 64 * 256 ^ 6 := Int.mul_le_mul_of_nonneg_right (by omega) (by decide)
          exact Int.le_trans (Int.le_trans h2 h3) (by decide)
        generalize fold (x % 64) (tl.take i) = N at *
        have hor := or_byte N (tl.getD i 0) (by omega) (by omega) hby.1 hby.2
        refine c_skip ?_
        repeat refine c_seq ?_
        refine c_block ?_
        repeat refine c_seq ?_
        refine c_region ?_
        refine step_as rfl (pure_indexAddr_at rfl rfl rfl rfl rfl (by omega) (by omega)) (show _ = Value.pointer (some (q.add i)) from by show Value.pointer (some (q.add ((i : Int).toNat * 1))) = _; rw [Int.toNat_natCast, Nat.mul_one]) ?_
        refine step_pure rfl (pure_view_at rfl rfl rfl hci List.not_mem_nil) ?_
        refine step_pure rfl (pure_assign rfl) ?_
        refine step_nil ?_
        repeat refine c_seq ?_
        refine c_region ?_
        refine step_pure rfl (pure_move rfl) ?_
        refine step_as rfl (pure_shl rfl rfl (by decide)) (show _ = Value.int .i64 (N * 256) from by show Value.int .i64 (IntKind.i64.wrap (N * 256)) = _; rw [wrap_i64 (by omega) (by omega)]) ?_
        refine step_pure rfl (pure_move rfl) ?_
        refine step_as rfl (pure_conv rfl rfl rfl rfl) (show _ = Value.int .i64 (tl.getD i 0) from by rw [wrap_i64 (by omega) (by omega)]) ?_
        refine step_as rfl (pure_or rfl rfl) (show _ = Value.int .i64 (N * 256 + tl.getD i 0) from by rw [hor]) ?_
        refine step_pure rfl (pure_assign rfl) ?_
        refine step_nil ?_
        repeat refine c_seq ?_
        refine c_region ?_
        first | refine step_pure rfl (pure_add64 rfl rfl (by omega) (by omega)) ?_ | refine step_pure rfl (pure_add rfl rfl) ?_
        refine step_pure rfl (pure_move rfl) ?_
        refine step_nil ?_
        exact ⟨i + 1, by omega, by omega, less_regs ⟨by show some (Value.int .i64 (N * 256 + tl.getD i 0)) = _; rw [hfn], rfl, rfl, rfl, rfl, trivial⟩⟩
      · have his : i = s - 1 := by have := of_decide_eq_false h; omega
        clear h
        have hte : tl.take i = tl := List.take_of_length_le (by omega)
        rw [hte]
        refine c_exit ?_
        repeat refine c_seq ?_
        refine c_region ?_
        refine step_pure rfl (pure_move rfl) ?_
        refine step_gives rfl fun40 rfl (fun w _ _ => size_any _ w) ?_
        refine step_pure rfl (pure_move rfl) ?_
        refine step_pure rfl (pure_neq rfl rfl) ?_
        refine step_nil ?_
        repeat refine c_seq ?_
        refine c_cond rfl (fun h => ?_) (fun h => ?_)
        · have hne : vsize (fold (x % 64) tl) ≠ s := by
            have := ne_of_apply_ne (fun n : Nat => n) (fun h' : vsize (fold (x % 64) tl) = s => by rw [h'] at h; simp at h)
            exact this
          rw [if_neg hne] at hgt
          repeat refine c_seq ?_
          refine c_region ?_
          refine step_pure rfl (pure_assign rfl) ?_
          refine step_pure rfl (pure_assign rfl) ?_
          refine step_pure rfl (pure_assign rfl) ?_
          refine step_nil ?_
          refine c_ret ⟨_, res3 rfl rfl rfl, ?_⟩
          unfold gN gS gE
          rw [hgt]
          rfl
        · have heq : vsize (fold (x % 64) tl) = s := by
            have := of_decide_eq_true (show decide ((vsize (fold (x % 64) tl) : Int) = s) = true by simpa using h)
            omega
          rw [if_pos heq] at hgt
          refine c_skip ?_
          repeat refine c_seq ?_
          refine c_region ?_
          refine step_pure rfl (pure_move rfl) ?_
          refine step_pure rfl (pure_move rfl) ?_
          refine step_pure rfl (pure_assign rfl) ?_
          refine step_pure rfl (pure_assign rfl) ?_
          refine step_pure rfl (pure_assign rfl) ?_
          refine step_nil ?_
          refine c_ret ⟨_, res3 rfl rfl rfl, ?_⟩
          unfold gN gS gE
          rw [hgt]
          rfl
end Go.Proofs.Ytphpmallnlajjaa
