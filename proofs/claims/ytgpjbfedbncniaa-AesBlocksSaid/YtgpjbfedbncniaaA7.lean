/- The program's Keys and Block, walked. -/
import Derived.Test.YtgpjbfedbncniaaA3
import Derived.Test.YtgpjbfedbncniaaVe
namespace Go.Proofs.Ytgpjbfedbncniaa
open Go.RowKit Go.Vc
set_option linter.unusedVariables false

theorem has_row {w : World} {m : Mem} {j b n : Nat} {l : List Int} {T : TypeId} (hh : Has w m) (he : nth m j = some ⟨b, row l, T⟩) (hl : l.length = n) :
    ∀ i, i < n → w.cell? ⟨b, i, none⟩ = some (.int .u8 (l.getD i 0)) := by
  intro i hi
  have hg := row_get l i (by omega)
  exact cell_of (hh.cell (nth_mem he) (fun h => by rw [show row l = [] from h] at hg; cases hg)) hg
theorem boxT_all : boxT.all (fun x => decide (0 ≤ x ∧ x < 256)) = true := by decide +kernel
theorem boxT_bytes : Bytes boxT := fun x hx => by
  have := List.all_eq_true.1 boxT_all x hx
  exact of_decide_eq_true this

theorem keys_any (key : List Int) (w : World) (hk : key.length = 16) (hb : Bytes key) : Gives tb 11 [.agg (row key).toArray] w (.agg (row (expF boxT key)).toArray) := by
  refine gives_of (fn := Try.f11) Try.func11 rfl Try.ntmps11 rfl ?_
  have hKl := expF_len boxT key hk
  have hSl := boxT_len
  have hS : ∀ bb w m, Has w m → (∃ j, nth m j = some ⟨bb, row boxT, 39⟩) → Gives tb 16 [.agg (row key).toArray, .pointer (some ⟨bb, 0, none⟩)] w (.agg (row (expF boxT key)).toArray) :=
    fun bb w m hh ⟨j, hj⟩ => expanded_any key boxT bb w hk hb (has_row hh hj boxT_len)
  have hB := boxes_any
  generalize expF boxT key = K at hKl hS ⊢
  generalize boxT = S at hSl hS hB ⊢
  repeat first
    | refine step_box_agg rfl rfl (fun bk => ?_)
    | refine step_alloc rfl zero25 (fun bo => ?_)
    | refine step_alloc rfl zero39 (fun bb => ?_)
    | refine step_gives rfl fun15 rfl (fun w _ _ => hB w) ?_
    | refine step_store_agg 0 rfl rfl rfl (row_one _) rfl (by rw [row_len]; exact hSl) rfl rfl (by simp only [row_len, zeros_len]; decide) (splice_all (by simp only [row_len, zeros_len, hSl])) ?_
    | refine step_pure rfl (pure_load_agg (i := 2) rfl rfl rfl rfl rfl (by simp only [row_len, hk]; decide) (ints_whole _ _ 16 hk)) ?_
    | refine step_gives rfl fun16 rfl (fun w hh _ => hS _ w _ hh ⟨0, rfl⟩) ?_
    | refine step_store_agg 1 rfl rfl rfl (row_one _) rfl (by rw [row_len]; exact hKl) rfl rfl (by simp only [row_len, zeros_len]; decide) (splice_all (by simp only [row_len, zeros_len, hKl])) ?_
    | refine step_pure rfl (pure_move rfl) ?_
    | refine step_pure rfl (pure_add64 rfl rfl (by omega) (by omega)) ?_
    | refine step_pure rfl (pure_sub64 rfl rfl (by omega) (by omega)) ?_
    | refine step_pure rfl (pure_mul64 rfl rfl (by omega) (by omega)) ?_
    | refine step_pure rfl (pure_rem_pos rfl rfl (by omega) (by decide)) ?_
    | refine step_pure rfl (pure_lss rfl rfl) ?_
    | refine step_pure rfl (pure_leq rfl rfl) ?_
    | refine step_pure rfl (pure_gtr rfl rfl) ?_
    | refine step_pure rfl (pure_geq rfl rfl) ?_
    | refine step_pure rfl (pure_eql rfl rfl) ?_
    | refine step_pure rfl (pure_neq rfl rfl) ?_
    | refine step_pure rfl (pure_xor rfl rfl) ?_
    | refine step_pure rfl (pure_and rfl rfl) ?_
    | refine step_pure rfl (pure_or rfl rfl) ?_
    | refine step_pure rfl (pure_shl rfl rfl (by decide)) ?_
    | refine step_pure rfl (pure_shr rfl rfl (by decide)) ?_
    | refine step_pure rfl (pure_conv rfl rfl rfl rfl) ?_
    | refine step_pure rfl (pure_nilCheck rfl) ?_
    | refine step_pure rfl (pure_not rfl) ?_
    | refine step_pure rfl (pure_extract rfl rfl) ?_
    | refine step_pure rfl (pure_max rfl rfl) ?_
    | refine step_pure rfl (pure_min rfl rfl) ?_
    | refine step_pure rfl (pure_ix rfl rfl rfl rfl rfl (by decide) (by decide) rfl) ?_
    | refine step_pure rfl (pure_assign rfl) ?_
    | refine step_nil ?_
    | refine c_seq ?_
    | refine c_region ?_
    | refine c_block ?_
  refine c_ret ⟨_, res_cell_agg (i := 1) Try.results11 rfl rfl rfl rfl rfl (by simp only [row_len, hKl]; decide) (ints_whole _ _ 176 hKl), rfl⟩

theorem ablock_any (key b : List Int) (w : World) (hk : key.length = 16) (hb : Bytes key) (hl : b.length = 16) (hbb : Bytes b) :
    Gives tb 9 [.agg (row key).toArray, .agg (row b).toArray] w (.agg (row (blkF boxT (expF boxT key) b)).toArray) := by
  refine gives_of (fn := Try.f9) Try.func9 rfl Try.ntmps9 rfl ?_
  have hKl := expF_len boxT key hk
  have hSl := boxT_len
  have hXl := blkF_len boxT (expF boxT key) b hl
  have hS : ∀ bb w m, Has w m → (∃ j, nth m j = some ⟨bb, row boxT, 39⟩) → Gives tb 16 [.agg (row key).toArray, .pointer (some ⟨bb, 0, none⟩)] w (.agg (row (expF boxT key)).toArray) :=
    fun bb w m hh ⟨j, hj⟩ => expanded_any key boxT bb w hk hb (has_row hh hj boxT_len)
  have hX : ∀ bk bb w m, Has w m → (∃ j, nth m j = some ⟨bk, row (expF boxT key), 25⟩) → (∃ j, nth m j = some ⟨bb, row boxT, 39⟩) →
      Gives tb 17 [.pointer (some ⟨bk, 0, none⟩), .pointer (some ⟨bb, 0, none⟩), .agg (row b).toArray] w (.agg (row (blkF boxT (expF boxT key) b)).toArray) :=
    fun bk bb w m hh ⟨i, hi⟩ ⟨j, hj⟩ => block_any boxT (expF boxT key) b bk bb w hl hbb boxT_bytes (has_row hh hi (expF_len boxT key hk)) (has_row hh hj boxT_len)
  have hB := boxes_any
  generalize blkF boxT (expF boxT key) b = X at hX hXl ⊢
  generalize expF boxT key = K at hKl hS hX ⊢
  generalize boxT = S at hSl hS hB hX ⊢
  repeat first
    | refine step_box_agg rfl rfl (fun bk => ?_)
    | refine step_alloc rfl zero22 (fun br => ?_)
    | refine step_alloc rfl zero39 (fun bb => ?_)
    | refine step_alloc rfl zero25 (fun bo => ?_)
    | refine step_gives rfl fun15 rfl (fun w _ _ => hB w) ?_
    | refine step_store_agg 0 rfl rfl rfl (row_one _) rfl (by rw [row_len]; exact hSl) rfl rfl (by simp only [row_len, zeros_len]; decide) (splice_all (by simp only [row_len, zeros_len, hSl])) ?_
    | refine step_pure rfl (pure_load_agg (i := 3) rfl rfl rfl rfl rfl (by simp only [row_len, hk]; decide) (ints_whole _ _ 16 hk)) ?_
    | refine step_gives rfl fun16 rfl (fun w hh _ => hS _ w _ hh ⟨0, rfl⟩) ?_
    | refine step_store_agg 0 rfl rfl rfl (row_one _) rfl (by rw [row_len]; exact hKl) rfl rfl (by simp only [row_len, zeros_len]; decide) (splice_all (by simp only [row_len, zeros_len, hKl])) ?_
    | refine step_pure rfl (pure_load_agg (i := 3) rfl rfl rfl rfl rfl (by simp only [row_len, hl]; decide) (ints_whole _ _ 16 hl)) ?_
    | refine step_gives rfl fun17 rfl (fun w hh _ => hX _ _ w _ hh ⟨0, rfl⟩ ⟨1, rfl⟩) ?_
    | refine step_store_agg 2 rfl rfl rfl (row_one _) rfl (by rw [row_len]; exact hXl) rfl rfl (by simp only [row_len, zeros_len]; decide) (splice_all (by simp only [row_len, zeros_len, hXl])) ?_
    | refine step_pure rfl (pure_move rfl) ?_
    | refine step_pure rfl (pure_add64 rfl rfl (by omega) (by omega)) ?_
    | refine step_pure rfl (pure_sub64 rfl rfl (by omega) (by omega)) ?_
    | refine step_pure rfl (pure_mul64 rfl rfl (by omega) (by omega)) ?_
    | refine step_pure rfl (pure_rem_pos rfl rfl (by omega) (by decide)) ?_
    | refine step_pure rfl (pure_lss rfl rfl) ?_
    | refine step_pure rfl (pure_leq rfl rfl) ?_
    | refine step_pure rfl (pure_gtr rfl rfl) ?_
    | refine step_pure rfl (pure_geq rfl rfl) ?_
    | refine step_pure rfl (pure_eql rfl rfl) ?_
    | refine step_pure rfl (pure_neq rfl rfl) ?_
    | refine step_pure rfl (pure_xor rfl rfl) ?_
    | refine step_pure rfl (pure_and rfl rfl) ?_
    | refine step_pure rfl (pure_or rfl rfl) ?_
    | refine step_pure rfl (pure_shl rfl rfl (by decide)) ?_
    | refine step_pure rfl (pure_shr rfl rfl (by decide)) ?_
    | refine step_pure rfl (pure_conv rfl rfl rfl rfl) ?_
    | refine step_pure rfl (pure_nilCheck rfl) ?_
    | refine step_pure rfl (pure_not rfl) ?_
    | refine step_pure rfl (pure_extract rfl rfl) ?_
    | refine step_pure rfl (pure_max rfl rfl) ?_
    | refine step_pure rfl (pure_min rfl rfl) ?_
    | refine step_pure rfl (pure_ix rfl rfl rfl rfl rfl (by decide) (by decide) rfl) ?_
    | refine step_pure rfl (pure_assign rfl) ?_
    | refine step_nil ?_
    | refine c_seq ?_
    | refine c_region ?_
    | refine c_block ?_
  refine c_ret ⟨_, res_cell_agg (i := 2) Try.results9 rfl rfl rfl rfl rfl (by simp only [row_len, hXl]; decide) (ints_whole _ _ 16 hXl), rfl⟩
end Go.Proofs.Ytgpjbfedbncniaa
