import Derived.Test.YtgpjbfedbncniaaTz
import Derived.Test.YtgpjbfedbncniaaP1
namespace Go.Proofs.Ytgpjbfedbncniaa
open Go.RowKit Go.Vc
set_option linter.unusedVariables false

set_option maxHeartbeats 400000 in
theorem double_any (a : Int) (w : World) : Gives tb 22 [.int .u8 a] w (.int .u8 (dbl a)) := by
  refine gives_of (fn := Try.f22) Try.func22 rfl Try.ntmps22 rfl ?_
  repeat first
    | refine step_pure rfl (pure_move rfl) ?_
    | refine step_pure rfl (pure_assign rfl) ?_
    | refine step_pure rfl (pure_shl rfl rfl (by decide)) ?_
    | refine step_pure rfl (pure_shr rfl rfl (by decide)) ?_
    | refine step_pure rfl (pure_mul rfl rfl) ?_
    | refine step_pure rfl (pure_xor rfl rfl) ?_
    | refine step_nil ?_
    | refine c_seq ?_
    | refine c_region ?_
  exact c_ret ⟨_, res_tmp Try.results22 rfl, rfl⟩


set_option maxHeartbeats 1000000 in
theorem boxes_any (w : World) : Gives tb 15 [] w (.agg (row boxT).toArray) := by
  refine gives_of (fn := Try.f15) Try.func15 rfl Try.ntmps15 rfl ?_
  refine c_seq (c_region (step_alloc rfl zero39 (fun b => ?_)))
  refine step_nil ?_
  repeat first
    | refine step_pure rfl (pure_move rfl) ?_
    | refine step_pure rfl (pure_assign rfl) ?_
    | refine step_nil ?_
    | refine c_seq ?_
    | refine c_region ?_
  refine c_block ?_
  refine c_loop (α := Nat) (fun k => [(0, .pointer (some ⟨b, 0, none⟩)), (1, .int .u8 (boxSt k).1), (2, .int .u8 (boxSt k).2.1)]) (fun k => [⟨b, row (boxSt k).2.2, 39⟩])
    (fun k => k < 255) (fun k => 255 - k) 0 (by decide) (less_regs ⟨rfl, rfl, rfl, trivial⟩) ?_
  intro k hk
  repeat first
    | refine step_pure rfl (pure_move rfl) ?_
    | refine step_pure rfl (pure_xor rfl rfl) ?_
    | refine step_gives rfl fun22 rfl (fun w _ _ => double_any _ w) ?_
    | refine step_nil ?_
    | refine c_seq ?_
    | refine c_region ?_
    | refine c_block ?_
  refine step_as rfl (pure_assign rfl) (show _ = Value.int .u8 (powA (boxSt k).1) from rfl) ?_
  repeat first
    | refine step_pure rfl (pure_move rfl) ?_
    | refine step_pure rfl (pure_shl rfl rfl (by decide)) ?_
    | refine step_pure rfl (pure_xor rfl rfl) ?_
    | refine step_nil ?_
    | refine c_seq ?_
    | refine c_region ?_
  refine step_as rfl (pure_assign rfl) (show _ = Value.int .u8 (powB0 (boxSt k).2.1) from rfl) ?_
  repeat first
    | refine step_pure rfl (pure_move rfl) ?_
    | refine step_pure rfl (pure_shl rfl rfl (by decide)) ?_
    | refine step_pure rfl (pure_xor rfl rfl) ?_
    | refine step_nil ?_
    | refine c_seq ?_
    | refine c_region ?_
  refine step_as rfl (pure_assign rfl) (show _ = Value.int .u8 (powB1 (powB0 (boxSt k).2.1)) from rfl) ?_
  repeat first
    | refine step_pure rfl (pure_move rfl) ?_
    | refine step_pure rfl (pure_shl rfl rfl (by decide)) ?_
    | refine step_pure rfl (pure_xor rfl rfl) ?_
    | refine step_nil ?_
    | refine c_seq ?_
    | refine c_region ?_
  refine step_as rfl (pure_assign rfl) (show _ = Value.int .u8 (powB2 (powB1 (powB0 (boxSt k).2.1))) from rfl) ?_
  repeat first
    | refine step_pure rfl (pure_move rfl) ?_
    | refine step_pure rfl (pure_shr rfl rfl (by decide)) ?_
    | refine step_pure rfl (pure_mul rfl rfl) ?_
    | refine step_pure rfl (pure_xor rfl rfl) ?_
    | refine step_nil ?_
    | refine c_seq ?_
    | refine c_region ?_
  refine step_as rfl (pure_assign rfl) (show _ = Value.int .u8 (powB (boxSt k).2.1) from rfl) ?_
  have hA := boxA_in k hk
  repeat first
    | refine step_pure rfl (pure_move rfl) ?_
    | refine step_pure rfl (pure_shl rfl rfl (by decide)) ?_
    | refine step_pure rfl (pure_shr rfl rfl (by decide)) ?_
    | refine step_pure rfl (pure_or rfl rfl) ?_
    | refine step_pure rfl (pure_xor rfl rfl) ?_
    | refine step_pure rfl (pure_indexAddr_arr rfl rfl rfl rfl rfl (by omega) (by omega)) ?_
    | refine step_nil ?_
    | refine c_seq ?_
    | refine c_region ?_
  refine step_store 0 rfl rfl (show _ = some (Value.int .u8 (boxOf (powB (boxSt k).2.1))) from rfl) rfl rfl rfl rfl rfl (by rw [row_len, boxLen]; show 0 + (powA (boxSt k).1).toNat * 1 < 256; omega)
    (show _ = row (boxSt (k + 1)).2.2 from by rw [row_set, boxSt_succ]; simp) ?_
  repeat first
    | refine step_pure rfl (pure_move rfl) ?_
    | refine step_pure rfl (pure_eql rfl rfl) ?_
    | refine step_nil ?_
    | refine c_seq ?_
    | refine c_region ?_
  refine c_cond rfl (fun h => ?_) (fun h => ?_)
  · have hk' : k = 254 := by
      apply Classical.byContradiction; intro hn
      exact boxA_ne k (by omega) (eq_of_beq h)
    have hT : (row (boxSt (k + 1)).2.2).set 0 (.int .u8 99) = row boxT := by rw [row_set, hk']; unfold boxT; rfl
    have hl : (row (boxSt (k + 1)).2.2).length = 256 := by rw [row_len, boxLen]
    have hl' : (row boxT).length = 256 := by rw [row_len, boxT_len]
    clear h hk' hA
    have hone : ∀ v ∈ row boxT, v.oneCell' = true := row_one boxT
    generalize row boxT = T at hT hl' hone
    generalize row (boxSt (k + 1)).2.2 = U at hT hl
    refine c_exit ?_
    repeat first
      | refine step_pure rfl (pure_indexAddr_arr rfl rfl rfl rfl rfl (by decide) (by decide)) ?_
      | refine step_nil ?_
      | refine c_seq ?_
      | refine c_region ?_
    refine step_store 0 rfl rfl rfl rfl rfl rfl rfl rfl (by rw [hl]; decide) hT ?_
    repeat first
      | refine step_pure rfl (pure_load_agg (i := 0) rfl rfl rfl rfl rfl (by rw [hl']; decide) (show _ = T from by rw [List.drop_zero, List.take_of_length_le (by rw [hl']; decide)])) ?_
      | refine step_nil ?_
      | refine c_seq ?_
      | refine c_region ?_
    refine step_store_agg 0 rfl rfl rfl hone rfl hl' rfl rfl (by rw [hl']; decide) (splice_all (hl'.trans hl'.symm)) ?_
    refine step_nil (c_ret ⟨_, res_cell_agg (i := 0) Try.results15 rfl rfl rfl rfl rfl (by show 0 + 256 ≤ T.length; rw [hl']; decide) rfl, ?_⟩)
    show Value.agg ((T.drop 0).take 256).toArray = _
    rw [List.drop_zero, List.take_of_length_le (by rw [hl']; decide)]
  · have hk' : k + 1 < 255 := by
      apply Classical.byContradiction; intro hn
      have : k = 254 := by omega
      subst this
      rw [boxA_end] at h
      cases h
    refine c_skip ⟨k + 1, hk', by omega, less_regs ⟨rfl, rfl, rfl, trivial⟩⟩
end Go.Proofs.Ytgpjbfedbncniaa
