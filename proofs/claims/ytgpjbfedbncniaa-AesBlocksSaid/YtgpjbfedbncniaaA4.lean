import Derived.Test.YtgpjbfedbncniaaA3
namespace Go.Proofs.Ytgpjbfedbncniaa
open Go.RowKit Go.Vc
set_option linter.unusedVariables false

/-! the reference's product -/
def tmA (a b : Int) : Nat → Int
  | 0 => 0
  | i + 1 => if (bits .and .u8 (b / 2 ^ min (IntKind.u64.wrap i).toNat IntKind.u8.bits) 1 == 1) = true then bits .xor .i64 (tmA a b i) (IntKind.i64.wrap (IntKind.i64.wrap a * 2 ^ min (IntKind.u64.wrap i).toNat IntKind.i64.bits)) else tmA a b i
def tmB (n : Int) : Nat → Int
  | 0 => n
  | j + 1 => if (bits .and .i64 (tmB n j / 2 ^ min (IntKind.u64.wrap (15 - j)).toNat IntKind.i64.bits) 1 == 1) = true then bits .xor .i64 (tmB n j) (IntKind.i64.wrap (283 * 2 ^ min (IntKind.u64.wrap (15 - j - 8)).toNat IntKind.i64.bits)) else tmB n j
def tms (a b : Int) : Int := IntKind.u8.wrap (tmB (tmA a b 8) 8)
theorem u64_nat (x : Int) : 0 ≤ IntKind.u64.wrap x := by
  rw [IntKind.wrap_u64]; omega

set_option maxHeartbeats 1000000 in
theorem times_any (a b : Int) (w : World) : Gives tb 20 [.int .u8 a, .int .u8 b] w (.int .u8 (tms a b)) := by
  refine gives_of (fn := Try.f20) Try.func20 rfl Try.ntmps20 rfl ?_
  repeat first
    | refine step_pure rfl (pure_move rfl) ?_
    | refine step_pure rfl (pure_add64 rfl rfl (by omega) (by omega)) ?_
    | refine step_pure rfl (pure_sub64 rfl rfl (by omega) (by omega)) ?_
    | refine step_pure rfl (pure_mul64 rfl rfl (by omega) (by omega)) ?_
    | refine step_pure rfl (pure_rem_pos rfl rfl (by omega) (by decide)) ?_
    | refine step_pure rfl (pure_lss rfl rfl) ?_
    | refine step_pure rfl (pure_leq rfl rfl) ?_
    | refine step_pure rfl (pure_gtr rfl rfl) ?_
    | refine step_pure rfl (pure_geq rfl rfl) ?_
    | refine step_pure rfl (pure_eql rfl rfl) ?_
    | refine step_pure rfl (pure_neq rfl rfl) ?_
    | refine step_pure rfl (pure_xor rfl rfl) ?_
    | refine step_pure rfl (pure_and rfl rfl) ?_
    | refine step_pure rfl (pure_or rfl rfl) ?_
    | refine step_pure rfl (pure_shl rfl rfl (by decide)) ?_
    | refine step_pure rfl (pure_shr rfl rfl (by decide)) ?_
    | refine step_pure rfl (pure_conv rfl rfl rfl rfl) ?_
    | refine step_pure rfl (pure_nilCheck rfl) ?_
    | refine step_pure rfl (pure_not rfl) ?_
    | refine step_pure rfl (pure_extract rfl rfl) ?_
    | refine step_pure rfl (pure_max rfl rfl) ?_
    | refine step_pure rfl (pure_min rfl rfl) ?_
    | refine step_pure rfl (pure_ix rfl rfl rfl rfl rfl (by decide) (by decide) rfl) ?_
    | refine step_pure rfl (pure_assign rfl) ?_
    | refine step_nil ?_
    | refine c_seq ?_
    | refine c_region ?_
    | refine c_block ?_
  refine c_loop (α := Nat) (fun i => [(0, .int .u8 a), (1, .int .u8 b), (5, .int .i64 (tmA a b i)), (6, .int .i64 i)]) (fun _ => []) (fun i => i ≤ 8) (fun i => 8 - i) 0 (by decide) (less_regs ⟨rfl, rfl, rfl, rfl, trivial⟩) ?_
  intro i hi
  repeat first
    | refine step_pure rfl (pure_move rfl) ?_
    | refine step_pure rfl (pure_add64 rfl rfl (by omega) (by omega)) ?_
    | refine step_pure rfl (pure_sub64 rfl rfl (by omega) (by omega)) ?_
    | refine step_pure rfl (pure_mul64 rfl rfl (by omega) (by omega)) ?_
    | refine step_pure rfl (pure_rem_pos rfl rfl (by omega) (by decide)) ?_
    | refine step_pure rfl (pure_lss rfl rfl) ?_
    | refine step_pure rfl (pure_leq rfl rfl) ?_
    | refine step_pure rfl (pure_gtr rfl rfl) ?_
    | refine step_pure rfl (pure_geq rfl rfl) ?_
    | refine step_pure rfl (pure_eql rfl rfl) ?_
    | refine step_pure rfl (pure_neq rfl rfl) ?_
    | refine step_pure rfl (pure_xor rfl rfl) ?_
    | refine step_pure rfl (pure_and rfl rfl) ?_
    | refine step_pure rfl (pure_or rfl rfl) ?_
    | refine step_pure rfl (pure_shl rfl rfl (by decide)) ?_
    | refine step_pure rfl (pure_shr rfl rfl (by decide)) ?_
    | refine step_pure rfl (pure_conv rfl rfl rfl rfl) ?_
    | refine step_pure rfl (pure_nilCheck rfl) ?_
    | refine step_pure rfl (pure_not rfl) ?_
    | refine step_pure rfl (pure_extract rfl rfl) ?_
    | refine step_pure rfl (pure_max rfl rfl) ?_
    | refine step_pure rfl (pure_min rfl rfl) ?_
    | refine step_pure rfl (pure_ix rfl rfl rfl rfl rfl (by decide) (by decide) rfl) ?_
    | refine step_pure rfl (pure_assign rfl) ?_
    | refine step_nil ?_
    | refine c_seq ?_
    | refine c_region ?_
    | refine c_block ?_
  refine c_cond rfl (fun h => ?_) (fun h => ?_)
  · have hlt : i < 8 := by have := of_decide_eq_true h; omega
    clear h
    refine c_skip ?_
    repeat first
      | refine step_pure rfl (pure_shr rfl rfl (u64_nat _)) ?_
      | refine step_pure rfl (pure_move rfl) ?_
      | refine step_pure rfl (pure_add64 rfl rfl (by omega) (by omega)) ?_
      | refine step_pure rfl (pure_sub64 rfl rfl (by omega) (by omega)) ?_
      | refine step_pure rfl (pure_mul64 rfl rfl (by omega) (by omega)) ?_
      | refine step_pure rfl (pure_rem_pos rfl rfl (by omega) (by decide)) ?_
      | refine step_pure rfl (pure_lss rfl rfl) ?_
      | refine step_pure rfl (pure_leq rfl rfl) ?_
      | refine step_pure rfl (pure_gtr rfl rfl) ?_
      | refine step_pure rfl (pure_geq rfl rfl) ?_
      | refine step_pure rfl (pure_eql rfl rfl) ?_
      | refine step_pure rfl (pure_neq rfl rfl) ?_
      | refine step_pure rfl (pure_xor rfl rfl) ?_
      | refine step_pure rfl (pure_and rfl rfl) ?_
      | refine step_pure rfl (pure_or rfl rfl) ?_
      | refine step_pure rfl (pure_shl rfl rfl (by decide)) ?_
      | refine step_pure rfl (pure_shr rfl rfl (by decide)) ?_
      | refine step_pure rfl (pure_conv rfl rfl rfl rfl) ?_
      | refine step_pure rfl (pure_nilCheck rfl) ?_
      | refine step_pure rfl (pure_not rfl) ?_
      | refine step_pure rfl (pure_extract rfl rfl) ?_
      | refine step_pure rfl (pure_max rfl rfl) ?_
      | refine step_pure rfl (pure_min rfl rfl) ?_
      | refine step_pure rfl (pure_ix rfl rfl rfl rfl rfl (by decide) (by decide) rfl) ?_
      | refine step_pure rfl (pure_assign rfl) ?_
      | refine step_nil ?_
      | refine c_seq ?_
      | refine c_region ?_
      | refine c_block ?_
    refine c_meet [(0, .int .u8 a), (1, .int .u8 b), (5, .int .i64 (tmA a b (i + 1))), (6, .int .i64 i)] [] ?_ ?_
    · refine c_cond rfl (fun h => ?_) (fun h => ?_)
      · have e : tmA a b (i + 1) = bits .xor .i64 (tmA a b i) (IntKind.i64.wrap (IntKind.i64.wrap a * 2 ^ min (IntKind.u64.wrap i).toNat IntKind.i64.bits)) := if_pos h
        rw [e]
        repeat first
          | refine step_pure rfl (pure_shl rfl rfl (u64_nat _)) ?_
          | refine step_pure rfl (pure_move rfl) ?_
          | refine step_pure rfl (pure_add64 rfl rfl (by omega) (by omega)) ?_
          | refine step_pure rfl (pure_sub64 rfl rfl (by omega) (by omega)) ?_
          | refine step_pure rfl (pure_mul64 rfl rfl (by omega) (by omega)) ?_
          | refine step_pure rfl (pure_rem_pos rfl rfl (by omega) (by decide)) ?_
          | refine step_pure rfl (pure_lss rfl rfl) ?_
          | refine step_pure rfl (pure_leq rfl rfl) ?_
          | refine step_pure rfl (pure_gtr rfl rfl) ?_
          | refine step_pure rfl (pure_geq rfl rfl) ?_
          | refine step_pure rfl (pure_eql rfl rfl) ?_
          | refine step_pure rfl (pure_neq rfl rfl) ?_
          | refine step_pure rfl (pure_xor rfl rfl) ?_
          | refine step_pure rfl (pure_and rfl rfl) ?_
          | refine step_pure rfl (pure_or rfl rfl) ?_
          | refine step_pure rfl (pure_shl rfl rfl (by decide)) ?_
          | refine step_pure rfl (pure_shr rfl rfl (by decide)) ?_
          | refine step_pure rfl (pure_conv rfl rfl rfl rfl) ?_
          | refine step_pure rfl (pure_nilCheck rfl) ?_
          | refine step_pure rfl (pure_not rfl) ?_
          | refine step_pure rfl (pure_extract rfl rfl) ?_
          | refine step_pure rfl (pure_max rfl rfl) ?_
          | refine step_pure rfl (pure_min rfl rfl) ?_
          | refine step_pure rfl (pure_ix rfl rfl rfl rfl rfl (by decide) (by decide) rfl) ?_
          | refine step_pure rfl (pure_assign rfl) ?_
          | refine step_nil ?_
          | refine c_seq ?_
          | refine c_region ?_
          | refine c_block ?_
        exact less_regs ⟨rfl, rfl, rfl, rfl, trivial⟩
      · have e : tmA a b (i + 1) = tmA a b i := if_neg (by rw [h]; decide)
        rw [e]
        exact c_skip (less_regs ⟨rfl, rfl, rfl, rfl, trivial⟩)
    repeat first
      | refine step_pure rfl (pure_move rfl) ?_
      | refine step_pure rfl (pure_add64 rfl rfl (by omega) (by omega)) ?_
      | refine step_pure rfl (pure_sub64 rfl rfl (by omega) (by omega)) ?_
      | refine step_pure rfl (pure_mul64 rfl rfl (by omega) (by omega)) ?_
      | refine step_pure rfl (pure_rem_pos rfl rfl (by omega) (by decide)) ?_
      | refine step_pure rfl (pure_lss rfl rfl) ?_
      | refine step_pure rfl (pure_leq rfl rfl) ?_
      | refine step_pure rfl (pure_gtr rfl rfl) ?_
      | refine step_pure rfl (pure_geq rfl rfl) ?_
      | refine step_pure rfl (pure_eql rfl rfl) ?_
      | refine step_pure rfl (pure_neq rfl rfl) ?_
      | refine step_pure rfl (pure_xor rfl rfl) ?_
      | refine step_pure rfl (pure_and rfl rfl) ?_
      | refine step_pure rfl (pure_or rfl rfl) ?_
      | refine step_pure rfl (pure_shl rfl rfl (by decide)) ?_
      | refine step_pure rfl (pure_shr rfl rfl (by decide)) ?_
      | refine step_pure rfl (pure_conv rfl rfl rfl rfl) ?_
      | refine step_pure rfl (pure_nilCheck rfl) ?_
      | refine step_pure rfl (pure_not rfl) ?_
      | refine step_pure rfl (pure_extract rfl rfl) ?_
      | refine step_pure rfl (pure_max rfl rfl) ?_
      | refine step_pure rfl (pure_min rfl rfl) ?_
      | refine step_pure rfl (pure_ix rfl rfl rfl rfl rfl (by decide) (by decide) rfl) ?_
      | refine step_pure rfl (pure_assign rfl) ?_
      | refine step_nil ?_
      | refine c_seq ?_
      | refine c_region ?_
      | refine c_block ?_
    exact ⟨i + 1, hlt, by omega, less_regs ⟨rfl, rfl, rfl, rfl, trivial⟩⟩
  · have hi8 : i = 8 := by have := of_decide_eq_false h; omega
    rw [hi8]
    refine c_exit ?_
    repeat first
      | refine step_pure rfl (pure_move rfl) ?_
      | refine step_pure rfl (pure_add64 rfl rfl (by omega) (by omega)) ?_
      | refine step_pure rfl (pure_sub64 rfl rfl (by omega) (by omega)) ?_
      | refine step_pure rfl (pure_mul64 rfl rfl (by omega) (by omega)) ?_
      | refine step_pure rfl (pure_rem_pos rfl rfl (by omega) (by decide)) ?_
      | refine step_pure rfl (pure_lss rfl rfl) ?_
      | refine step_pure rfl (pure_leq rfl rfl) ?_
      | refine step_pure rfl (pure_gtr rfl rfl) ?_
      | refine step_pure rfl (pure_geq rfl rfl) ?_
      | refine step_pure rfl (pure_eql rfl rfl) ?_
      | refine step_pure rfl (pure_neq rfl rfl) ?_
      | refine step_pure rfl (pure_xor rfl rfl) ?_
      | refine step_pure rfl (pure_and rfl rfl) ?_
      | refine step_pure rfl (pure_or rfl rfl) ?_
      | refine step_pure rfl (pure_shl rfl rfl (by decide)) ?_
      | refine step_pure rfl (pure_shr rfl rfl (by decide)) ?_
      | refine step_pure rfl (pure_conv rfl rfl rfl rfl) ?_
      | refine step_pure rfl (pure_nilCheck rfl) ?_
      | refine step_pure rfl (pure_not rfl) ?_
      | refine step_pure rfl (pure_extract rfl rfl) ?_
      | refine step_pure rfl (pure_max rfl rfl) ?_
      | refine step_pure rfl (pure_min rfl rfl) ?_
      | refine step_pure rfl (pure_ix rfl rfl rfl rfl rfl (by decide) (by decide) rfl) ?_
      | refine step_pure rfl (pure_assign rfl) ?_
      | refine step_nil ?_
      | refine c_seq ?_
      | refine c_region ?_
      | refine c_block ?_
    refine c_loop (α := Nat) (fun j => [(5, .int .i64 (tmB (tmA a b 8) j)), (7, .int .i64 (15 - j))]) (fun _ => []) (fun j => j ≤ 8) (fun j => 8 - j) 0 (by decide) (less_regs ⟨rfl, rfl, trivial⟩) ?_
    intro j hj
    repeat first
      | refine step_pure rfl (pure_move rfl) ?_
      | refine step_pure rfl (pure_add64 rfl rfl (by omega) (by omega)) ?_
      | refine step_pure rfl (pure_sub64 rfl rfl (by omega) (by omega)) ?_
      | refine step_pure rfl (pure_mul64 rfl rfl (by omega) (by omega)) ?_
      | refine step_pure rfl (pure_rem_pos rfl rfl (by omega) (by decide)) ?_
      | refine step_pure rfl (pure_lss rfl rfl) ?_
      | refine step_pure rfl (pure_leq rfl rfl) ?_
      | refine step_pure rfl (pure_gtr rfl rfl) ?_
      | refine step_pure rfl (pure_geq rfl rfl) ?_
      | refine step_pure rfl (pure_eql rfl rfl) ?_
      | refine step_pure rfl (pure_neq rfl rfl) ?_
      | refine step_pure rfl (pure_xor rfl rfl) ?_
      | refine step_pure rfl (pure_and rfl rfl) ?_
      | refine step_pure rfl (pure_or rfl rfl) ?_
      | refine step_pure rfl (pure_shl rfl rfl (by decide)) ?_
      | refine step_pure rfl (pure_shr rfl rfl (by decide)) ?_
      | refine step_pure rfl (pure_conv rfl rfl rfl rfl) ?_
      | refine step_pure rfl (pure_nilCheck rfl) ?_
      | refine step_pure rfl (pure_not rfl) ?_
      | refine step_pure rfl (pure_extract rfl rfl) ?_
      | refine step_pure rfl (pure_max rfl rfl) ?_
      | refine step_pure rfl (pure_min rfl rfl) ?_
      | refine step_pure rfl (pure_ix rfl rfl rfl rfl rfl (by decide) (by decide) rfl) ?_
      | refine step_pure rfl (pure_assign rfl) ?_
      | refine step_nil ?_
      | refine c_seq ?_
      | refine c_region ?_
      | refine c_block ?_
    refine c_cond rfl (fun h => ?_) (fun h => ?_)
    · have hlt : j < 8 := by have := of_decide_eq_true h; omega
      clear h
      refine c_skip ?_
      repeat first
        | refine step_pure rfl (pure_shr rfl rfl (u64_nat _)) ?_
        | refine step_pure rfl (pure_move rfl) ?_
        | refine step_pure rfl (pure_add64 rfl rfl (by omega) (by omega)) ?_
        | refine step_pure rfl (pure_sub64 rfl rfl (by omega) (by omega)) ?_
        | refine step_pure rfl (pure_mul64 rfl rfl (by omega) (by omega)) ?_
        | refine step_pure rfl (pure_rem_pos rfl rfl (by omega) (by decide)) ?_
        | refine step_pure rfl (pure_lss rfl rfl) ?_
        | refine step_pure rfl (pure_leq rfl rfl) ?_
        | refine step_pure rfl (pure_gtr rfl rfl) ?_
        | refine step_pure rfl (pure_geq rfl rfl) ?_
        | refine step_pure rfl (pure_eql rfl rfl) ?_
        | refine step_pure rfl (pure_neq rfl rfl) ?_
        | refine step_pure rfl (pure_xor rfl rfl) ?_
        | refine step_pure rfl (pure_and rfl rfl) ?_
        | refine step_pure rfl (pure_or rfl rfl) ?_
        | refine step_pure rfl (pure_shl rfl rfl (by decide)) ?_
        | refine step_pure rfl (pure_shr rfl rfl (by decide)) ?_
        | refine step_pure rfl (pure_conv rfl rfl rfl rfl) ?_
        | refine step_pure rfl (pure_nilCheck rfl) ?_
        | refine step_pure rfl (pure_not rfl) ?_
        | refine step_pure rfl (pure_extract rfl rfl) ?_
        | refine step_pure rfl (pure_max rfl rfl) ?_
        | refine step_pure rfl (pure_min rfl rfl) ?_
        | refine step_pure rfl (pure_ix rfl rfl rfl rfl rfl (by decide) (by decide) rfl) ?_
        | refine step_pure rfl (pure_assign rfl) ?_
        | refine step_nil ?_
        | refine c_seq ?_
        | refine c_region ?_
        | refine c_block ?_
      refine c_meet [(5, .int .i64 (tmB (tmA a b 8) (j + 1))), (7, .int .i64 (15 - j))] [] ?_ ?_
      · refine c_cond rfl (fun h => ?_) (fun h => ?_)
        · have e : tmB (tmA a b 8) (j + 1) = bits .xor .i64 (tmB (tmA a b 8) j) (IntKind.i64.wrap (283 * 2 ^ min (IntKind.u64.wrap (15 - j - 8)).toNat IntKind.i64.bits)) := if_pos h
          rw [e]
          repeat first
            | refine step_pure rfl (pure_shl rfl rfl (u64_nat _)) ?_
            | refine step_pure rfl (pure_move rfl) ?_
            | refine step_pure rfl (pure_add64 rfl rfl (by omega) (by omega)) ?_
            | refine step_pure rfl (pure_sub64 rfl rfl (by omega) (by omega)) ?_
            | refine step_pure rfl (pure_mul64 rfl rfl (by omega) (by omega)) ?_
            | refine step_pure rfl (pure_rem_pos rfl rfl (by omega) (by decide)) ?_
            | refine step_pure rfl (pure_lss rfl rfl) ?_
            | refine step_pure rfl (pure_leq rfl rfl) ?_
            | refine step_pure rfl (pure_gtr rfl rfl) ?_
            | refine step_pure rfl (pure_geq rfl rfl) ?_
            | refine step_pure rfl (pure_eql rfl rfl) ?_
            | refine step_pure rfl (pure_neq rfl rfl) ?_
            | refine step_pure rfl (pure_xor rfl rfl) ?_
            | refine step_pure rfl (pure_and rfl rfl) ?_
            | refine step_pure rfl (pure_or rfl rfl) ?_
            | refine step_pure rfl (pure_shl rfl rfl (by decide)) ?_
            | refine step_pure rfl (pure_shr rfl rfl (by decide)) ?_
            | refine step_pure rfl (pure_conv rfl rfl rfl rfl) ?_
            | refine step_pure rfl (pure_nilCheck rfl) ?_
            | refine step_pure rfl (pure_not rfl) ?_
            | refine step_pure rfl (pure_extract rfl rfl) ?_
            | refine step_pure rfl (pure_max rfl rfl) ?_
            | refine step_pure rfl (pure_min rfl rfl) ?_
            | refine step_pure rfl (pure_ix rfl rfl rfl rfl rfl (by decide) (by decide) rfl) ?_
            | refine step_pure rfl (pure_assign rfl) ?_
            | refine step_nil ?_
            | refine c_seq ?_
            | refine c_region ?_
            | refine c_block ?_
          exact less_regs ⟨rfl, rfl, trivial⟩
        · have e : tmB (tmA a b 8) (j + 1) = tmB (tmA a b 8) j := if_neg (by rw [h]; decide)
          rw [e]
          exact c_skip (less_regs ⟨rfl, rfl, trivial⟩)
      repeat first
        | refine step_pure rfl (pure_move rfl) ?_
        | refine step_pure rfl (pure_add64 rfl rfl (by omega) (by omega)) ?_
        | refine step_pure rfl (pure_sub64 rfl rfl (by omega) (by omega)) ?_
        | refine step_pure rfl (pure_mul64 rfl rfl (by omega) (by omega)) ?_
        | refine step_pure rfl (pure_rem_pos rfl rfl (by omega) (by decide)) ?_
        | refine step_pure rfl (pure_lss rfl rfl) ?_
        | refine step_pure rfl (pure_leq rfl rfl) ?_
        | refine step_pure rfl (pure_gtr rfl rfl) ?_
        | refine step_pure rfl (pure_geq rfl rfl) ?_
        | refine step_pure rfl (pure_eql rfl rfl) ?_
        | refine step_pure rfl (pure_neq rfl rfl) ?_
        | refine step_pure rfl (pure_xor rfl rfl) ?_
        | refine step_pure rfl (pure_and rfl rfl) ?_
        | refine step_pure rfl (pure_or rfl rfl) ?_
        | refine step_pure rfl (pure_shl rfl rfl (by decide)) ?_
        | refine step_pure rfl (pure_shr rfl rfl (by decide)) ?_
        | refine step_pure rfl (pure_conv rfl rfl rfl rfl) ?_
        | refine step_pure rfl (pure_nilCheck rfl) ?_
        | refine step_pure rfl (pure_not rfl) ?_
        | refine step_pure rfl (pure_extract rfl rfl) ?_
        | refine step_pure rfl (pure_max rfl rfl) ?_
        | refine step_pure rfl (pure_min rfl rfl) ?_
        | refine step_pure rfl (pure_ix rfl rfl rfl rfl rfl (by decide) (by decide) rfl) ?_
        | refine step_pure rfl (pure_assign rfl) ?_
        | refine step_nil ?_
        | refine c_seq ?_
        | refine c_region ?_
        | refine c_block ?_
      refine ⟨j + 1, hlt, by omega, less_regs ⟨rfl, ?_, trivial⟩⟩
      show some (Value.int .i64 (15 - (j : Int) - 1)) = some (.int .i64 (15 - ((j + 1 : Nat) : Int)))
      congr 2; omega
    · have hj8 : j = 8 := by have := of_decide_eq_false h; omega
      rw [hj8]
      refine c_exit ?_
      repeat first
        | refine step_pure rfl (pure_move rfl) ?_
        | refine step_pure rfl (pure_add64 rfl rfl (by omega) (by omega)) ?_
        | refine step_pure rfl (pure_sub64 rfl rfl (by omega) (by omega)) ?_
        | refine step_pure rfl (pure_mul64 rfl rfl (by omega) (by omega)) ?_
        | refine step_pure rfl (pure_rem_pos rfl rfl (by omega) (by decide)) ?_
        | refine step_pure rfl (pure_lss rfl rfl) ?_
        | refine step_pure rfl (pure_leq rfl rfl) ?_
        | refine step_pure rfl (pure_gtr rfl rfl) ?_
        | refine step_pure rfl (pure_geq rfl rfl) ?_
        | refine step_pure rfl (pure_eql rfl rfl) ?_
        | refine step_pure rfl (pure_neq rfl rfl) ?_
        | refine step_pure rfl (pure_xor rfl rfl) ?_
        | refine step_pure rfl (pure_and rfl rfl) ?_
        | refine step_pure rfl (pure_or rfl rfl) ?_
        | refine step_pure rfl (pure_shl rfl rfl (by decide)) ?_
        | refine step_pure rfl (pure_shr rfl rfl (by decide)) ?_
        | refine step_pure rfl (pure_conv rfl rfl rfl rfl) ?_
        | refine step_pure rfl (pure_nilCheck rfl) ?_
        | refine step_pure rfl (pure_not rfl) ?_
        | refine step_pure rfl (pure_extract rfl rfl) ?_
        | refine step_pure rfl (pure_max rfl rfl) ?_
        | refine step_pure rfl (pure_min rfl rfl) ?_
        | refine step_pure rfl (pure_ix rfl rfl rfl rfl rfl (by decide) (by decide) rfl) ?_
        | refine step_pure rfl (pure_assign rfl) ?_
        | refine step_nil ?_
        | refine c_seq ?_
        | refine c_region ?_
        | refine c_block ?_
      exact c_ret ⟨_, res_tmp Try.results20 rfl, rfl⟩

/-! the reference's table -/
def ivA (a : Int) : Nat → Int × Int
  | 0 => (1, a)
  | i + 1 => (tms (ivA a i).1 (tms (ivA a i).2 (ivA a i).2), tms (ivA a i).2 (ivA a i).2)
def inv (a : Int) : Int := (ivA a 7).1
theorem inverse_any (a : Int) (w : World) : Gives tb 23 [.int .u8 a] w (.int .u8 (inv a)) := by
  refine gives_of (fn := Try.f23) Try.func23 rfl Try.ntmps23 rfl ?_
  repeat first
    | refine step_pure rfl (pure_move rfl) ?_
    | refine step_pure rfl (pure_add64 rfl rfl (by omega) (by omega)) ?_
    | refine step_pure rfl (pure_sub64 rfl rfl (by omega) (by omega)) ?_
    | refine step_pure rfl (pure_mul64 rfl rfl (by omega) (by omega)) ?_
    | refine step_pure rfl (pure_rem_pos rfl rfl (by omega) (by decide)) ?_
    | refine step_pure rfl (pure_lss rfl rfl) ?_
    | refine step_pure rfl (pure_leq rfl rfl) ?_
    | refine step_pure rfl (pure_gtr rfl rfl) ?_
    | refine step_pure rfl (pure_geq rfl rfl) ?_
    | refine step_pure rfl (pure_eql rfl rfl) ?_
    | refine step_pure rfl (pure_neq rfl rfl) ?_
    | refine step_pure rfl (pure_xor rfl rfl) ?_
    | refine step_pure rfl (pure_and rfl rfl) ?_
    | refine step_pure rfl (pure_or rfl rfl) ?_
    | refine step_pure rfl (pure_shl rfl rfl (by decide)) ?_
    | refine step_pure rfl (pure_shr rfl rfl (by decide)) ?_
    | refine step_pure rfl (pure_conv rfl rfl rfl rfl) ?_
    | refine step_pure rfl (pure_nilCheck rfl) ?_
    | refine step_pure rfl (pure_not rfl) ?_
    | refine step_pure rfl (pure_extract rfl rfl) ?_
    | refine step_pure rfl (pure_max rfl rfl) ?_
    | refine step_pure rfl (pure_min rfl rfl) ?_
    | refine step_pure rfl (pure_ix rfl rfl rfl rfl rfl (by decide) (by decide) rfl) ?_
    | refine step_pure rfl (pure_assign rfl) ?_
    | refine step_nil ?_
    | refine c_seq ?_
    | refine c_region ?_
    | refine c_block ?_
  refine c_loop (α := Nat) (fun i => [(3, .int .u8 (ivA a i).1), (4, .int .u8 (ivA a i).2), (5, .int .i64 (i + 1))]) (fun _ => []) (fun i => i ≤ 7) (fun i => 7 - i) 0 (by decide) (less_regs ⟨rfl, rfl, rfl, trivial⟩) ?_
  intro i hi
  repeat first
    | refine step_pure rfl (pure_move rfl) ?_
    | refine step_pure rfl (pure_add64 rfl rfl (by omega) (by omega)) ?_
    | refine step_pure rfl (pure_sub64 rfl rfl (by omega) (by omega)) ?_
    | refine step_pure rfl (pure_mul64 rfl rfl (by omega) (by omega)) ?_
    | refine step_pure rfl (pure_rem_pos rfl rfl (by omega) (by decide)) ?_
    | refine step_pure rfl (pure_lss rfl rfl) ?_
    | refine step_pure rfl (pure_leq rfl rfl) ?_
    | refine step_pure rfl (pure_gtr rfl rfl) ?_
    | refine step_pure rfl (pure_geq rfl rfl) ?_
    | refine step_pure rfl (pure_eql rfl rfl) ?_
    | refine step_pure rfl (pure_neq rfl rfl) ?_
    | refine step_pure rfl (pure_xor rfl rfl) ?_
    | refine step_pure rfl (pure_and rfl rfl) ?_
    | refine step_pure rfl (pure_or rfl rfl) ?_
    | refine step_pure rfl (pure_shl rfl rfl (by decide)) ?_
    | refine step_pure rfl (pure_shr rfl rfl (by decide)) ?_
    | refine step_pure rfl (pure_conv rfl rfl rfl rfl) ?_
    | refine step_pure rfl (pure_nilCheck rfl) ?_
    | refine step_pure rfl (pure_not rfl) ?_
    | refine step_pure rfl (pure_extract rfl rfl) ?_
    | refine step_pure rfl (pure_max rfl rfl) ?_
    | refine step_pure rfl (pure_min rfl rfl) ?_
    | refine step_pure rfl (pure_ix rfl rfl rfl rfl rfl (by decide) (by decide) rfl) ?_
    | refine step_pure rfl (pure_assign rfl) ?_
    | refine step_nil ?_
    | refine c_seq ?_
    | refine c_region ?_
    | refine c_block ?_
  refine c_cond rfl (fun h => ?_) (fun h => ?_)
  · have hlt : i < 7 := by have := of_decide_eq_true h; omega
    clear h
    refine c_skip ?_
    repeat first
      | refine step_gives rfl fun20 rfl (fun w _ _ => times_any _ _ w) ?_
      | refine step_pure rfl (pure_move rfl) ?_
      | refine step_pure rfl (pure_add64 rfl rfl (by omega) (by omega)) ?_
      | refine step_pure rfl (pure_sub64 rfl rfl (by omega) (by omega)) ?_
      | refine step_pure rfl (pure_mul64 rfl rfl (by omega) (by omega)) ?_
      | refine step_pure rfl (pure_rem_pos rfl rfl (by omega) (by decide)) ?_
      | refine step_pure rfl (pure_lss rfl rfl) ?_
      | refine step_pure rfl (pure_leq rfl rfl) ?_
      | refine step_pure rfl (pure_gtr rfl rfl) ?_
      | refine step_pure rfl (pure_geq rfl rfl) ?_
      | refine step_pure rfl (pure_eql rfl rfl) ?_
      | refine step_pure rfl (pure_neq rfl rfl) ?_
      | refine step_pure rfl (pure_xor rfl rfl) ?_
      | refine step_pure rfl (pure_and rfl rfl) ?_
      | refine step_pure rfl (pure_or rfl rfl) ?_
      | refine step_pure rfl (pure_shl rfl rfl (by decide)) ?_
      | refine step_pure rfl (pure_shr rfl rfl (by decide)) ?_
      | refine step_pure rfl (pure_conv rfl rfl rfl rfl) ?_
      | refine step_pure rfl (pure_nilCheck rfl) ?_
      | refine step_pure rfl (pure_not rfl) ?_
      | refine step_pure rfl (pure_extract rfl rfl) ?_
      | refine step_pure rfl (pure_max rfl rfl) ?_
      | refine step_pure rfl (pure_min rfl rfl) ?_
      | refine step_pure rfl (pure_ix rfl rfl rfl rfl rfl (by decide) (by decide) rfl) ?_
      | refine step_pure rfl (pure_assign rfl) ?_
      | refine step_nil ?_
      | refine c_seq ?_
      | refine c_region ?_
      | refine c_block ?_
    exact ⟨i + 1, hlt, by omega, less_regs ⟨rfl, rfl, rfl, trivial⟩⟩
  · have hi7 : i = 7 := by have := of_decide_eq_false h; omega
    have e : (ivA a i).1 = inv a := by rw [hi7]; rfl
    rw [e]
    refine c_exit ?_
    repeat first
      | refine step_pure rfl (pure_move rfl) ?_
      | refine step_pure rfl (pure_add64 rfl rfl (by omega) (by omega)) ?_
      | refine step_pure rfl (pure_sub64 rfl rfl (by omega) (by omega)) ?_
      | refine step_pure rfl (pure_mul64 rfl rfl (by omega) (by omega)) ?_
      | refine step_pure rfl (pure_rem_pos rfl rfl (by omega) (by decide)) ?_
      | refine step_pure rfl (pure_lss rfl rfl) ?_
      | refine step_pure rfl (pure_leq rfl rfl) ?_
      | refine step_pure rfl (pure_gtr rfl rfl) ?_
      | refine step_pure rfl (pure_geq rfl rfl) ?_
      | refine step_pure rfl (pure_eql rfl rfl) ?_
      | refine step_pure rfl (pure_neq rfl rfl) ?_
      | refine step_pure rfl (pure_xor rfl rfl) ?_
      | refine step_pure rfl (pure_and rfl rfl) ?_
      | refine step_pure rfl (pure_or rfl rfl) ?_
      | refine step_pure rfl (pure_shl rfl rfl (by decide)) ?_
      | refine step_pure rfl (pure_shr rfl rfl (by decide)) ?_
      | refine step_pure rfl (pure_conv rfl rfl rfl rfl) ?_
      | refine step_pure rfl (pure_nilCheck rfl) ?_
      | refine step_pure rfl (pure_not rfl) ?_
      | refine step_pure rfl (pure_extract rfl rfl) ?_
      | refine step_pure rfl (pure_max rfl rfl) ?_
      | refine step_pure rfl (pure_min rfl rfl) ?_
      | refine step_pure rfl (pure_ix rfl rfl rfl rfl rfl (by decide) (by decide) rfl) ?_
      | refine step_pure rfl (pure_assign rfl) ?_
      | refine step_nil ?_
      | refine c_seq ?_
      | refine c_region ?_
      | refine c_block ?_
    exact c_ret ⟨_, res_tmp Try.results23 rfl, rfl⟩
def rbA (x : Int) : Nat → Int × Int
  | 0 => (x, xr x 99)
  | i + 1 => (orr (sl (rbA x i).1 1) (sr (rbA x i).1 7), xr (rbA x i).2 (orr (sl (rbA x i).1 1) (sr (rbA x i).1 7)))
def rbox (a : Int) : Int := (rbA (inv a) 4).2
theorem rbox_any (a : Int) (w : World) : Gives tb 19 [.int .u8 a] w (.int .u8 (rbox a)) := by
  refine gives_of (fn := Try.f19) Try.func19 rfl Try.ntmps19 rfl ?_
  repeat first
    | refine step_gives rfl fun23 rfl (fun w _ _ => inverse_any _ w) ?_
    | refine step_pure rfl (pure_move rfl) ?_
    | refine step_pure rfl (pure_add64 rfl rfl (by omega) (by omega)) ?_
    | refine step_pure rfl (pure_sub64 rfl rfl (by omega) (by omega)) ?_
    | refine step_pure rfl (pure_mul64 rfl rfl (by omega) (by omega)) ?_
    | refine step_pure rfl (pure_rem_pos rfl rfl (by omega) (by decide)) ?_
    | refine step_pure rfl (pure_lss rfl rfl) ?_
    | refine step_pure rfl (pure_leq rfl rfl) ?_
    | refine step_pure rfl (pure_gtr rfl rfl) ?_
    | refine step_pure rfl (pure_geq rfl rfl) ?_
    | refine step_pure rfl (pure_eql rfl rfl) ?_
    | refine step_pure rfl (pure_neq rfl rfl) ?_
    | refine step_pure rfl (pure_xor rfl rfl) ?_
    | refine step_pure rfl (pure_and rfl rfl) ?_
    | refine step_pure rfl (pure_or rfl rfl) ?_
    | refine step_pure rfl (pure_shl rfl rfl (by decide)) ?_
    | refine step_pure rfl (pure_shr rfl rfl (by decide)) ?_
    | refine step_pure rfl (pure_conv rfl rfl rfl rfl) ?_
    | refine step_pure rfl (pure_nilCheck rfl) ?_
    | refine step_pure rfl (pure_not rfl) ?_
    | refine step_pure rfl (pure_extract rfl rfl) ?_
    | refine step_pure rfl (pure_max rfl rfl) ?_
    | refine step_pure rfl (pure_min rfl rfl) ?_
    | refine step_pure rfl (pure_ix rfl rfl rfl rfl rfl (by decide) (by decide) rfl) ?_
    | refine step_pure rfl (pure_assign rfl) ?_
    | refine step_nil ?_
    | refine c_seq ?_
    | refine c_region ?_
    | refine c_block ?_
  refine c_loop (α := Nat) (fun i => [(3, .int .u8 (rbA (inv a) i).1), (4, .int .u8 (rbA (inv a) i).2), (5, .int .i64 i)]) (fun _ => []) (fun i => i ≤ 4) (fun i => 4 - i) 0 (by decide) (less_regs ⟨rfl, rfl, rfl, trivial⟩) ?_
  intro i hi
  repeat first
    | refine step_pure rfl (pure_move rfl) ?_
    | refine step_pure rfl (pure_add64 rfl rfl (by omega) (by omega)) ?_
    | refine step_pure rfl (pure_sub64 rfl rfl (by omega) (by omega)) ?_
    | refine step_pure rfl (pure_mul64 rfl rfl (by omega) (by omega)) ?_
    | refine step_pure rfl (pure_rem_pos rfl rfl (by omega) (by decide)) ?_
    | refine step_pure rfl (pure_lss rfl rfl) ?_
    | refine step_pure rfl (pure_leq rfl rfl) ?_
    | refine step_pure rfl (pure_gtr rfl rfl) ?_
    | refine step_pure rfl (pure_geq rfl rfl) ?_
    | refine step_pure rfl (pure_eql rfl rfl) ?_
    | refine step_pure rfl (pure_neq rfl rfl) ?_
    | refine step_pure rfl (pure_xor rfl rfl) ?_
    | refine step_pure rfl (pure_and rfl rfl) ?_
    | refine step_pure rfl (pure_or rfl rfl) ?_
    | refine step_pure rfl (pure_shl rfl rfl (by decide)) ?_
    | refine step_pure rfl (pure_shr rfl rfl (by decide)) ?_
    | refine step_pure rfl (pure_conv rfl rfl rfl rfl) ?_
    | refine step_pure rfl (pure_nilCheck rfl) ?_
    | refine step_pure rfl (pure_not rfl) ?_
    | refine step_pure rfl (pure_extract rfl rfl) ?_
    | refine step_pure rfl (pure_max rfl rfl) ?_
    | refine step_pure rfl (pure_min rfl rfl) ?_
    | refine step_pure rfl (pure_ix rfl rfl rfl rfl rfl (by decide) (by decide) rfl) ?_
    | refine step_pure rfl (pure_assign rfl) ?_
    | refine step_nil ?_
    | refine c_seq ?_
    | refine c_region ?_
    | refine c_block ?_
  refine c_cond rfl (fun h => ?_) (fun h => ?_)
  · have hlt : i < 4 := by have := of_decide_eq_true h; omega
    clear h
    refine c_skip ?_
    repeat first
      | refine step_pure rfl (pure_move rfl) ?_
      | refine step_pure rfl (pure_add64 rfl rfl (by omega) (by omega)) ?_
      | refine step_pure rfl (pure_sub64 rfl rfl (by omega) (by omega)) ?_
      | refine step_pure rfl (pure_mul64 rfl rfl (by omega) (by omega)) ?_
      | refine step_pure rfl (pure_rem_pos rfl rfl (by omega) (by decide)) ?_
      | refine step_pure rfl (pure_lss rfl rfl) ?_
      | refine step_pure rfl (pure_leq rfl rfl) ?_
      | refine step_pure rfl (pure_gtr rfl rfl) ?_
      | refine step_pure rfl (pure_geq rfl rfl) ?_
      | refine step_pure rfl (pure_eql rfl rfl) ?_
      | refine step_pure rfl (pure_neq rfl rfl) ?_
      | refine step_pure rfl (pure_xor rfl rfl) ?_
      | refine step_pure rfl (pure_and rfl rfl) ?_
      | refine step_pure rfl (pure_or rfl rfl) ?_
      | refine step_pure rfl (pure_shl rfl rfl (by decide)) ?_
      | refine step_pure rfl (pure_shr rfl rfl (by decide)) ?_
      | refine step_pure rfl (pure_conv rfl rfl rfl rfl) ?_
      | refine step_pure rfl (pure_nilCheck rfl) ?_
      | refine step_pure rfl (pure_not rfl) ?_
      | refine step_pure rfl (pure_extract rfl rfl) ?_
      | refine step_pure rfl (pure_max rfl rfl) ?_
      | refine step_pure rfl (pure_min rfl rfl) ?_
      | refine step_pure rfl (pure_ix rfl rfl rfl rfl rfl (by decide) (by decide) rfl) ?_
      | refine step_pure rfl (pure_assign rfl) ?_
      | refine step_nil ?_
      | refine c_seq ?_
      | refine c_region ?_
      | refine c_block ?_
    exact ⟨i + 1, hlt, by omega, less_regs ⟨rfl, rfl, rfl, trivial⟩⟩
  · have hi7 : i = 4 := by have := of_decide_eq_false h; omega
    have e : (rbA (inv a) i).2 = rbox a := by rw [hi7]; rfl
    rw [e]
    refine c_exit ?_
    repeat first
      | refine step_pure rfl (pure_move rfl) ?_
      | refine step_pure rfl (pure_add64 rfl rfl (by omega) (by omega)) ?_
      | refine step_pure rfl (pure_sub64 rfl rfl (by omega) (by omega)) ?_
      | refine step_pure rfl (pure_mul64 rfl rfl (by omega) (by omega)) ?_
      | refine step_pure rfl (pure_rem_pos rfl rfl (by omega) (by decide)) ?_
      | refine step_pure rfl (pure_lss rfl rfl) ?_
      | refine step_pure rfl (pure_leq rfl rfl) ?_
      | refine step_pure rfl (pure_gtr rfl rfl) ?_
      | refine step_pure rfl (pure_geq rfl rfl) ?_
      | refine step_pure rfl (pure_eql rfl rfl) ?_
      | refine step_pure rfl (pure_neq rfl rfl) ?_
      | refine step_pure rfl (pure_xor rfl rfl) ?_
      | refine step_pure rfl (pure_and rfl rfl) ?_
      | refine step_pure rfl (pure_or rfl rfl) ?_
      | refine step_pure rfl (pure_shl rfl rfl (by decide)) ?_
      | refine step_pure rfl (pure_shr rfl rfl (by decide)) ?_
      | refine step_pure rfl (pure_conv rfl rfl rfl rfl) ?_
      | refine step_pure rfl (pure_nilCheck rfl) ?_
      | refine step_pure rfl (pure_not rfl) ?_
      | refine step_pure rfl (pure_extract rfl rfl) ?_
      | refine step_pure rfl (pure_max rfl rfl) ?_
      | refine step_pure rfl (pure_min rfl rfl) ?_
      | refine step_pure rfl (pure_ix rfl rfl rfl rfl rfl (by decide) (by decide) rfl) ?_
      | refine step_pure rfl (pure_assign rfl) ?_
      | refine step_nil ?_
      | refine c_seq ?_
      | refine c_region ?_
      | refine c_block ?_
    exact c_ret ⟨_, res_tmp Try.results19 rfl, rfl⟩
end Go.Proofs.Ytgpjbfedbncniaa
