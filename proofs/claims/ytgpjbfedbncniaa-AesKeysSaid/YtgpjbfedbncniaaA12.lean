/- The statement AesKeys, walked. -/
import Derived.Test.YtgpjbfedbncniaaP2
import Derived.Test.YtgpjbfedbncniaaVq
namespace Go.Proofs.Ytgpjbfedbncniaa
open Go.RowKit Go.Vc
set_option linter.unusedVariables false

def p7 : List Nat := [1, 9, 17, 25, 35, 41, 49, 57, 65, 73, 83, 89, 97, 105, 113, 121, 131, 137, 145]
theorem guard22 : tb.P.eqGuardType tb.P.depth 22 = false := by kernel_rfl

set_option maxHeartbeats 2000000 in
theorem aeskeys_any (key : List Int) (w : World) (hk : key.length = 16) (hb : Bytes key) : Gives tb 7 [.agg (row key).toArray] w (.bool true) := by
  refine gives_of (fn := Try.f7) Try.func7 rfl Try.ntmps7 rfl ?_
  have hKl := expF_len boxT key hk
  have hKo := expF_ok boxT key hk
  have h11 : ∀ w, Gives tb 11 [.agg (row key).toArray] w (.agg (row (expF boxT key)).toArray) := fun w => keys_any key w hk hb
  generalize expF boxT key = K at hKl hKo h11
  have hfirst : (K.drop 0).take 16 = key := by
    rw [List.drop_zero]
    apply List.ext_getElem
    · simp [hKl, hk]
    · intro i h1 h2
      have := hKo.first i (by omega)
      rw [List.getD_eq_getElem?_getD, List.getD_eq_getElem?_getD, List.getElem?_eq_getElem (by omega), List.getElem?_eq_getElem h2] at this
      simpa using this
  repeat first
    | refine step_box_agg rfl rfl (fun bK => ?_)
    | refine step_gives rfl fun8 rfl (fun w _ _ => awake_any w) ?_
    | refine step_pure rfl (pure_load_agg (i := 0) rfl rfl rfl rfl rfl (by simp only [row_len, hk]; decide) (ints_whole _ _ 16 hk)) ?_
    | refine step_gives rfl fun11 rfl (fun w _ _ => h11 w) ?_
    | refine step_alloc rfl zero25 (fun bO => ?_)
    | refine step_store_agg 0 rfl rfl rfl (row_one _) rfl (by rw [row_len]; exact hKl) rfl rfl (by simp only [row_len, zeros_len]; decide) (splice_all (by simp only [row_len, zeros_len, hKl])) ?_
    | refine step_pure rfl (pure_move rfl) ?_
    | refine step_pure rfl (pure_add64 rfl rfl (by omega) (by omega)) ?_
    | refine step_pure rfl (pure_sub64 rfl rfl (by omega) (by omega)) ?_
    | refine step_pure rfl (pure_mul64 rfl rfl (by omega) (by omega)) ?_
    | refine step_pure rfl (pure_rem_pos rfl rfl (by omega) (by decide)) ?_
    | refine step_pure rfl (pure_lss rfl rfl) ?_
    | refine step_pure rfl (pure_leq rfl rfl) ?_
    | refine step_pure rfl (pure_gtr rfl rfl) ?_
    | refine step_pure rfl (pure_geq rfl rfl) ?_
    | refine step_pure rfl (pure_eql rfl rfl) ?_
    | refine step_pure rfl (pure_neq rfl rfl) ?_
    | refine step_pure rfl (pure_xor rfl rfl) ?_
    | refine step_pure rfl (pure_and rfl rfl) ?_
    | refine step_pure rfl (pure_or rfl rfl) ?_
    | refine step_pure rfl (pure_shl rfl rfl (by decide)) ?_
    | refine step_pure rfl (pure_shr rfl rfl (by decide)) ?_
    | refine step_pure rfl (pure_conv rfl rfl rfl rfl) ?_
    | refine step_pure rfl (pure_nilCheck rfl) ?_
    | refine step_pure rfl (pure_not rfl) ?_
    | refine step_pure rfl (pure_extract rfl rfl) ?_
    | refine step_pure rfl (pure_max rfl rfl) ?_
    | refine step_pure rfl (pure_min rfl rfl) ?_
    | refine step_pure rfl (pure_ix rfl rfl rfl rfl rfl (by decide) (by decide) rfl) ?_
    | refine step_pure rfl (pure_assign rfl) ?_
    | refine step_nil ?_
    | refine c_seq ?_
    | refine c_region ?_
    | refine c_block ?_
  refine c_loop (α := Nat) (fun n => [(1, .pointer (some ⟨bK, 0, none⟩)), (3, .bool true), (4, .pointer (some ⟨bO, 0, none⟩)), (5, .int .i64 (n + 1))])
    (fun _ => [⟨bO, row K, 25⟩, ⟨bK, row key, 22⟩]) (fun n => n ≤ 10) (fun n => 10 - n) 0 (by decide) (less_of ⟨rfl, rfl, rfl, rfl, trivial⟩ rfl) ?_
  intro n hn
  repeat first
    | refine step_pure rfl (pure_move rfl) ?_
    | refine step_pure rfl (pure_add64 rfl rfl (by omega) (by omega)) ?_
    | refine step_pure rfl (pure_sub64 rfl rfl (by omega) (by omega)) ?_
    | refine step_pure rfl (pure_mul64 rfl rfl (by omega) (by omega)) ?_
    | refine step_pure rfl (pure_rem_pos rfl rfl (by omega) (by decide)) ?_
    | refine step_pure rfl (pure_lss rfl rfl) ?_
    | refine step_pure rfl (pure_leq rfl rfl) ?_
    | refine step_pure rfl (pure_gtr rfl rfl) ?_
    | refine step_pure rfl (pure_geq rfl rfl) ?_
    | refine step_pure rfl (pure_eql rfl rfl) ?_
    | refine step_pure rfl (pure_neq rfl rfl) ?_
    | refine step_pure rfl (pure_xor rfl rfl) ?_
    | refine step_pure rfl (pure_and rfl rfl) ?_
    | refine step_pure rfl (pure_or rfl rfl) ?_
    | refine step_pure rfl (pure_shl rfl rfl (by decide)) ?_
    | refine step_pure rfl (pure_shr rfl rfl (by decide)) ?_
    | refine step_pure rfl (pure_conv rfl rfl rfl rfl) ?_
    | refine step_pure rfl (pure_nilCheck rfl) ?_
    | refine step_pure rfl (pure_not rfl) ?_
    | refine step_pure rfl (pure_extract rfl rfl) ?_
    | refine step_pure rfl (pure_max rfl rfl) ?_
    | refine step_pure rfl (pure_min rfl rfl) ?_
    | refine step_pure rfl (pure_ix rfl rfl rfl rfl rfl (by decide) (by decide) rfl) ?_
    | refine step_pure rfl (pure_assign rfl) ?_
    | refine step_nil ?_
    | refine c_seq ?_
    | refine c_region ?_
    | refine c_block ?_
  refine c_cond rfl (fun h => ?_) (fun h => ?_)
  · have hlt : n < 10 := by have := of_decide_eq_true h; omega
    clear h
    refine c_skip ?_
    repeat first
      | refine step_pure rfl (pure_move rfl) ?_
      | refine step_pure rfl (pure_add64 rfl rfl (by omega) (by omega)) ?_
      | refine step_pure rfl (pure_sub64 rfl rfl (by omega) (by omega)) ?_
      | refine step_pure rfl (pure_mul64 rfl rfl (by omega) (by omega)) ?_
      | refine step_pure rfl (pure_rem_pos rfl rfl (by omega) (by decide)) ?_
      | refine step_pure rfl (pure_lss rfl rfl) ?_
      | refine step_pure rfl (pure_leq rfl rfl) ?_
      | refine step_pure rfl (pure_gtr rfl rfl) ?_
      | refine step_pure rfl (pure_geq rfl rfl) ?_
      | refine step_pure rfl (pure_eql rfl rfl) ?_
      | refine step_pure rfl (pure_neq rfl rfl) ?_
      | refine step_pure rfl (pure_xor rfl rfl) ?_
      | refine step_pure rfl (pure_and rfl rfl) ?_
      | refine step_pure rfl (pure_or rfl rfl) ?_
      | refine step_pure rfl (pure_shl rfl rfl (by decide)) ?_
      | refine step_pure rfl (pure_shr rfl rfl (by decide)) ?_
      | refine step_pure rfl (pure_conv rfl rfl rfl rfl) ?_
      | refine step_pure rfl (pure_nilCheck rfl) ?_
      | refine step_pure rfl (pure_not rfl) ?_
      | refine step_pure rfl (pure_extract rfl rfl) ?_
      | refine step_pure rfl (pure_max rfl rfl) ?_
      | refine step_pure rfl (pure_min rfl rfl) ?_
      | refine step_pure rfl (pure_ix rfl rfl rfl rfl rfl (by decide) (by decide) rfl) ?_
      | refine step_pure rfl (pure_assign rfl) ?_
      | refine step_nil ?_
      | refine c_seq ?_
      | refine c_region ?_
      | refine c_block ?_
    refine c_loop (α := Nat) (fun i => [(1, .pointer (some ⟨bK, 0, none⟩)), (3, .bool true), (4, .pointer (some ⟨bO, 0, none⟩)), (5, .int .i64 (n + 1)), (6, .int .i64 (i + 4))])
      (fun _ => [⟨bO, row K, 25⟩, ⟨bK, row key, 22⟩]) (fun i => i ≤ 12) (fun i => 12 - i) 0 (by decide) (less_of ⟨rfl, rfl, rfl, rfl, rfl, trivial⟩ rfl) ?_
    intro i hi
    repeat first
      | refine step_pure rfl (pure_move rfl) ?_
      | refine step_pure rfl (pure_add64 rfl rfl (by omega) (by omega)) ?_
      | refine step_pure rfl (pure_sub64 rfl rfl (by omega) (by omega)) ?_
      | refine step_pure rfl (pure_mul64 rfl rfl (by omega) (by omega)) ?_
      | refine step_pure rfl (pure_rem_pos rfl rfl (by omega) (by decide)) ?_
      | refine step_pure rfl (pure_lss rfl rfl) ?_
      | refine step_pure rfl (pure_leq rfl rfl) ?_
      | refine step_pure rfl (pure_gtr rfl rfl) ?_
      | refine step_pure rfl (pure_geq rfl rfl) ?_
      | refine step_pure rfl (pure_eql rfl rfl) ?_
      | refine step_pure rfl (pure_neq rfl rfl) ?_
      | refine step_pure rfl (pure_xor rfl rfl) ?_
      | refine step_pure rfl (pure_and rfl rfl) ?_
      | refine step_pure rfl (pure_or rfl rfl) ?_
      | refine step_pure rfl (pure_shl rfl rfl (by decide)) ?_
      | refine step_pure rfl (pure_shr rfl rfl (by decide)) ?_
      | refine step_pure rfl (pure_conv rfl rfl rfl rfl) ?_
      | refine step_pure rfl (pure_nilCheck rfl) ?_
      | refine step_pure rfl (pure_not rfl) ?_
      | refine step_pure rfl (pure_extract rfl rfl) ?_
      | refine step_pure rfl (pure_max rfl rfl) ?_
      | refine step_pure rfl (pure_min rfl rfl) ?_
      | refine step_pure rfl (pure_ix rfl rfl rfl rfl rfl (by decide) (by decide) rfl) ?_
      | refine step_pure rfl (pure_assign rfl) ?_
      | refine step_nil ?_
      | refine c_seq ?_
      | refine c_region ?_
      | refine c_block ?_
    refine c_cond rfl (fun h => ?_) (fun h => ?_)
    · have hil : i < 12 := by have := of_decide_eq_true h; omega
      clear h
      refine c_skip ?_
      repeat first
        | refine step_pure rfl (pure_move rfl) ?_
        | refine step_pure rfl (pure_add64 rfl rfl (by omega) (by omega)) ?_
        | refine step_pure rfl (pure_sub64 rfl rfl (by omega) (by omega)) ?_
        | refine step_pure rfl (pure_mul64 rfl rfl (by omega) (by omega)) ?_
        | refine step_pure rfl (pure_rem_pos rfl rfl (by omega) (by decide)) ?_
        | refine step_pure rfl (pure_lss rfl rfl) ?_
        | refine step_pure rfl (pure_leq rfl rfl) ?_
        | refine step_pure rfl (pure_gtr rfl rfl) ?_
        | refine step_pure rfl (pure_geq rfl rfl) ?_
        | refine step_pure rfl (pure_eql rfl rfl) ?_
        | refine step_pure rfl (pure_neq rfl rfl) ?_
        | refine step_pure rfl (pure_xor rfl rfl) ?_
        | refine step_pure rfl (pure_and rfl rfl) ?_
        | refine step_pure rfl (pure_or rfl rfl) ?_
        | refine step_pure rfl (pure_shl rfl rfl (by decide)) ?_
        | refine step_pure rfl (pure_shr rfl rfl (by decide)) ?_
        | refine step_pure rfl (pure_conv rfl rfl rfl rfl) ?_
        | refine step_pure rfl (pure_nilCheck rfl) ?_
        | refine step_pure rfl (pure_not rfl) ?_
        | refine step_pure rfl (pure_extract rfl rfl) ?_
        | refine step_pure rfl (pure_max rfl rfl) ?_
        | refine step_pure rfl (pure_min rfl rfl) ?_
        | refine step_pure rfl (pure_ix rfl rfl rfl rfl rfl (by decide) (by decide) rfl) ?_
        | refine step_pure rfl (pure_assign rfl) ?_
        | refine step_nil ?_
        | refine c_seq ?_
        | refine c_region ?_
        | refine c_block ?_
      refine d_region p7 follows (by kernel_rfl) ?_
      repeat first
        | refine d_pure0 rfl rfl rfl (pure_ix (off' := 16 * (n + 1)) rfl rfl rfl rfl rfl (by omega) (by omega) (by show 0 + ((n : Int) + 1).toNat * 16 = _; omega)) ?_
        | refine d_pure0 rfl rfl rfl (pure_ix (off' := 16 * n) rfl rfl rfl rfl rfl (by omega) (by omega) (by show 0 + ((n : Int) + 1 - 1).toNat * 16 = _; omega)) ?_
        | refine d_pure0 rfl rfl rfl (pure_ix (off' := 16 * (n + 1) + (i + 4)) rfl rfl rfl rfl rfl (by omega) (by omega) (by show 16 * (n + 1) + ((i : Int) + 4).toNat * 1 = _; omega)) ?_
        | refine d_pure0 rfl rfl rfl (pure_ix (off' := 16 * n + (i + 4)) rfl rfl rfl rfl rfl (by omega) (by omega) (by show 16 * n + ((i : Int) + 4).toNat * 1 = _; omega)) ?_
        | refine d_pure0 rfl rfl rfl (pure_ix (off' := 16 * (n + 1) + (i + 4) - 4) rfl rfl rfl rfl rfl (by omega) (by omega) (by show 16 * (n + 1) + ((i : Int) + 4 - 4).toNat * 1 = _; omega)) ?_
        | refine d_pure1 rfl rfl rfl (pure_load (i := 0) rfl rfl rfl rfl rfl (row_get _ _ (by omega))) (SubMem.refl _) ?_
        | refine d_pure0 rfl rfl rfl (pure_move rfl) ?_
        | refine d_pure0 rfl rfl rfl (pure_add64 rfl rfl (by omega) (by omega)) ?_
        | refine d_pure0 rfl rfl rfl (pure_sub64 rfl rfl (by omega) (by omega)) ?_
        | refine d_pure0 rfl rfl rfl (pure_mul64 rfl rfl (by omega) (by omega)) ?_
        | refine d_pure0 rfl rfl rfl (pure_rem_pos rfl rfl (by omega) (by decide)) ?_
        | refine d_pure0 rfl rfl rfl (pure_lss rfl rfl) ?_
        | refine d_pure0 rfl rfl rfl (pure_leq rfl rfl) ?_
        | refine d_pure0 rfl rfl rfl (pure_gtr rfl rfl) ?_
        | refine d_pure0 rfl rfl rfl (pure_geq rfl rfl) ?_
        | refine d_pure0 rfl rfl rfl (pure_eql rfl rfl) ?_
        | refine d_pure0 rfl rfl rfl (pure_neq rfl rfl) ?_
        | refine d_pure0 rfl rfl rfl (pure_xor rfl rfl) ?_
        | refine d_pure0 rfl rfl rfl (pure_and rfl rfl) ?_
        | refine d_pure0 rfl rfl rfl (pure_or rfl rfl) ?_
        | refine d_pure0 rfl rfl rfl (pure_shl rfl rfl (by decide)) ?_
        | refine d_pure0 rfl rfl rfl (pure_shr rfl rfl (by decide)) ?_
        | refine d_pure0 rfl rfl rfl (pure_conv rfl rfl rfl rfl) ?_
        | refine d_pure0 rfl rfl rfl (pure_nilCheck rfl) ?_
        | refine d_pure0 rfl rfl rfl (pure_not rfl) ?_
        | refine d_pure0 rfl rfl rfl (pure_extract rfl rfl) ?_
        | refine d_pure0 rfl rfl rfl (pure_max rfl rfl) ?_
        | refine d_pure0 rfl rfl rfl (pure_min rfl rfl) ?_
        | refine d_pure0 rfl rfl rfl (pure_ix rfl rfl rfl rfl rfl (by decide) (by decide) rfl) ?_
        | refine d_pure0 rfl rfl rfl (pure_assign rfl) ?_
        | refine d_nil ?_
      have hnx := hKo.next n hlt (i + 4) (by omega) (by omega)
      repeat first
        | refine step_pure rfl (pure_move rfl) ?_
        | refine step_pure rfl (pure_add64 rfl rfl (by omega) (by omega)) ?_
        | refine step_pure rfl (pure_sub64 rfl rfl (by omega) (by omega)) ?_
        | refine step_pure rfl (pure_mul64 rfl rfl (by omega) (by omega)) ?_
        | refine step_pure rfl (pure_rem_pos rfl rfl (by omega) (by decide)) ?_
        | refine step_pure rfl (pure_lss rfl rfl) ?_
        | refine step_pure rfl (pure_leq rfl rfl) ?_
        | refine step_pure rfl (pure_gtr rfl rfl) ?_
        | refine step_pure rfl (pure_geq rfl rfl) ?_
        | refine step_pure rfl (pure_eql rfl rfl) ?_
        | refine step_pure rfl (pure_neq rfl rfl) ?_
        | refine step_pure rfl (pure_xor rfl rfl) ?_
        | refine step_pure rfl (pure_and rfl rfl) ?_
        | refine step_pure rfl (pure_or rfl rfl) ?_
        | refine step_pure rfl (pure_shl rfl rfl (by decide)) ?_
        | refine step_pure rfl (pure_shr rfl rfl (by decide)) ?_
        | refine step_pure rfl (pure_conv rfl rfl rfl rfl) ?_
        | refine step_pure rfl (pure_nilCheck rfl) ?_
        | refine step_pure rfl (pure_not rfl) ?_
        | refine step_pure rfl (pure_extract rfl rfl) ?_
        | refine step_pure rfl (pure_max rfl rfl) ?_
        | refine step_pure rfl (pure_min rfl rfl) ?_
        | refine step_pure rfl (pure_ix rfl rfl rfl rfl rfl (by decide) (by decide) rfl) ?_
        | refine step_pure rfl (pure_assign rfl) ?_
        | refine step_nil ?_
        | refine c_seq ?_
        | refine c_region ?_
        | refine c_block ?_
      refine c_cond rfl (fun h => ?_) (fun h => ?_)
      · exact absurd hnx (by simpa [xr] using h)
      · refine c_skip ?_
        repeat first
          | refine step_pure rfl (pure_move rfl) ?_
          | refine step_pure rfl (pure_add64 rfl rfl (by omega) (by omega)) ?_
          | refine step_pure rfl (pure_sub64 rfl rfl (by omega) (by omega)) ?_
          | refine step_pure rfl (pure_mul64 rfl rfl (by omega) (by omega)) ?_
          | refine step_pure rfl (pure_rem_pos rfl rfl (by omega) (by decide)) ?_
          | refine step_pure rfl (pure_lss rfl rfl) ?_
          | refine step_pure rfl (pure_leq rfl rfl) ?_
          | refine step_pure rfl (pure_gtr rfl rfl) ?_
          | refine step_pure rfl (pure_geq rfl rfl) ?_
          | refine step_pure rfl (pure_eql rfl rfl) ?_
          | refine step_pure rfl (pure_neq rfl rfl) ?_
          | refine step_pure rfl (pure_xor rfl rfl) ?_
          | refine step_pure rfl (pure_and rfl rfl) ?_
          | refine step_pure rfl (pure_or rfl rfl) ?_
          | refine step_pure rfl (pure_shl rfl rfl (by decide)) ?_
          | refine step_pure rfl (pure_shr rfl rfl (by decide)) ?_
          | refine step_pure rfl (pure_conv rfl rfl rfl rfl) ?_
          | refine step_pure rfl (pure_nilCheck rfl) ?_
          | refine step_pure rfl (pure_not rfl) ?_
          | refine step_pure rfl (pure_extract rfl rfl) ?_
          | refine step_pure rfl (pure_max rfl rfl) ?_
          | refine step_pure rfl (pure_min rfl rfl) ?_
          | refine step_pure rfl (pure_ix rfl rfl rfl rfl rfl (by decide) (by decide) rfl) ?_
          | refine step_pure rfl (pure_assign rfl) ?_
          | refine step_nil ?_
          | refine c_seq ?_
          | refine c_region ?_
          | refine c_block ?_
        exact ⟨i + 1, hil, by omega, less_of ⟨rfl, rfl, rfl, rfl, by first | rfl | (simp [Vc.look]; omega), trivial⟩ rfl⟩
    · have hi12 : i = 12 := by have := of_decide_eq_false h; omega
      clear h
      refine c_exit ?_
      repeat first
        | refine step_pure rfl (pure_move rfl) ?_
        | refine step_pure rfl (pure_add64 rfl rfl (by omega) (by omega)) ?_
        | refine step_pure rfl (pure_sub64 rfl rfl (by omega) (by omega)) ?_
        | refine step_pure rfl (pure_mul64 rfl rfl (by omega) (by omega)) ?_
        | refine step_pure rfl (pure_rem_pos rfl rfl (by omega) (by decide)) ?_
        | refine step_pure rfl (pure_lss rfl rfl) ?_
        | refine step_pure rfl (pure_leq rfl rfl) ?_
        | refine step_pure rfl (pure_gtr rfl rfl) ?_
        | refine step_pure rfl (pure_geq rfl rfl) ?_
        | refine step_pure rfl (pure_eql rfl rfl) ?_
        | refine step_pure rfl (pure_neq rfl rfl) ?_
        | refine step_pure rfl (pure_xor rfl rfl) ?_
        | refine step_pure rfl (pure_and rfl rfl) ?_
        | refine step_pure rfl (pure_or rfl rfl) ?_
        | refine step_pure rfl (pure_shl rfl rfl (by decide)) ?_
        | refine step_pure rfl (pure_shr rfl rfl (by decide)) ?_
        | refine step_pure rfl (pure_conv rfl rfl rfl rfl) ?_
        | refine step_pure rfl (pure_nilCheck rfl) ?_
        | refine step_pure rfl (pure_not rfl) ?_
        | refine step_pure rfl (pure_extract rfl rfl) ?_
        | refine step_pure rfl (pure_max rfl rfl) ?_
        | refine step_pure rfl (pure_min rfl rfl) ?_
        | refine step_pure rfl (pure_ix rfl rfl rfl rfl rfl (by decide) (by decide) rfl) ?_
        | refine step_pure rfl (pure_assign rfl) ?_
        | refine step_nil ?_
        | refine c_seq ?_
        | refine c_region ?_
        | refine c_block ?_
      exact ⟨n + 1, hlt, by omega, less_of ⟨rfl, rfl, rfl, rfl, trivial⟩ rfl⟩
  · clear h
    refine c_exit ?_
    repeat first
      | refine step_pure rfl (pure_move rfl) ?_
      | refine step_pure rfl (pure_add64 rfl rfl (by omega) (by omega)) ?_
      | refine step_pure rfl (pure_sub64 rfl rfl (by omega) (by omega)) ?_
      | refine step_pure rfl (pure_mul64 rfl rfl (by omega) (by omega)) ?_
      | refine step_pure rfl (pure_rem_pos rfl rfl (by omega) (by decide)) ?_
      | refine step_pure rfl (pure_lss rfl rfl) ?_
      | refine step_pure rfl (pure_leq rfl rfl) ?_
      | refine step_pure rfl (pure_gtr rfl rfl) ?_
      | refine step_pure rfl (pure_geq rfl rfl) ?_
      | refine step_pure rfl (pure_eql rfl rfl) ?_
      | refine step_pure rfl (pure_neq rfl rfl) ?_
      | refine step_pure rfl (pure_xor rfl rfl) ?_
      | refine step_pure rfl (pure_and rfl rfl) ?_
      | refine step_pure rfl (pure_or rfl rfl) ?_
      | refine step_pure rfl (pure_shl rfl rfl (by decide)) ?_
      | refine step_pure rfl (pure_shr rfl rfl (by decide)) ?_
      | refine step_pure rfl (pure_conv rfl rfl rfl rfl) ?_
      | refine step_pure rfl (pure_nilCheck rfl) ?_
      | refine step_pure rfl (pure_not rfl) ?_
      | refine step_pure rfl (pure_extract rfl rfl) ?_
      | refine step_pure rfl (pure_max rfl rfl) ?_
      | refine step_pure rfl (pure_min rfl rfl) ?_
      | refine step_pure rfl (pure_ix rfl rfl rfl rfl rfl (by decide) (by decide) rfl) ?_
      | refine step_pure rfl (pure_assign rfl) ?_
      | refine step_nil ?_
      | refine c_seq ?_
      | refine c_region ?_
      | refine c_block ?_
    refine step_pure rfl (pure_load_agg (i := 0) rfl rfl rfl rfl rfl (by show 0 + 16 ≤ (row K).length; rw [row_len, hKl]; decide) (show _ = row key from by show ((row K).drop 0).take 16 = row key; rw [ints_sub, hfirst])) ?_
    refine step_pure rfl (pure_load_agg (i := 1) rfl rfl rfl rfl rfl (by simp only [row_len, hk]; decide) (ints_whole _ _ 16 hk)) ?_
    refine step_as rfl (pure_eql_arr rfl rfl guard22 rfl rfl rfl rfl rfl rfl hk hk) (show _ = Value.bool true from by simp) ?_
    refine step_pure rfl (pure_pick_yes rfl rfl) ?_
    refine step_pure rfl (pure_assign rfl) ?_
    exact step_nil (c_ret ⟨_, res_tmp Try.results7 rfl, rfl⟩)
theorem fun7 : Fun tb 7 := Try.call7
end Go.Proofs.Ytgpjbfedbncniaa
