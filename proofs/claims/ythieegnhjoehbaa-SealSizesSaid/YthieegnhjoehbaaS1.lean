/- Words turned; the numbers that a hash begins with, and those of its rounds: walked. -/
import Derived.Test.YthieegnhjoehbaaS0
import Derived.Test.YthieegnhjoehbaaVk
namespace Go.Proofs.Ythieegnhjoehbaa
open Go.RowKit Go.Vc
set_option linter.unusedVariables false
theorem rl_count : ∀ k : Nat, k < 31 → bits .and .u64 (IntKind.u64.wrap (IntKind.i64.wrap (0 - ((k + 1 : Nat) : Int)))) 31 = ((31 - k : Nat) : Int) := by decide +kernel
theorem rotl_any (x : W) (k : Nat) (w : World) (h1 : 1 ≤ k) (h2 : k ≤ 31) : Gives tb 94 [.int .u32 (wd x), .int .i64 (IntKind.i64.wrap (0 - (k : Int)))] w (.int .u32 (wd (rotr x k))) := by
 obtain ⟨j, rfl⟩ : ∃ j, k = j + 1 := ⟨k - 1, by omega⟩
 have hc := rl_count j (by omega)
 have hs : IntKind.u64.wrap (32 - ((31 - j : Nat) : Int)) = ((j + 1 : Nat) : Int) := by rw [IntKind.wrap_u64]; omega
 refine gives_of (fn := Try.f94) Try.func94 rfl Try.ntmps94 rfl ?_
 repeat refine c_seq ?_
 refine c_region ?_
 refine qa rfl rfl ?_
 refine step_nil ?_
 repeat refine c_seq ?_
 refine c_region ?_
 refine qm rfl rfl ?_
 refine step_pure rfl (pure_conv rfl rfl rfl rfl) ?_
 refine step_as rfl (pure_and rfl rfl) (show _ = Value.int .u64 ((31 - j : Nat) : Int) from by rw [hc]) ?_
 refine qa rfl rfl ?_
 refine step_nil ?_
 repeat refine c_seq ?_
 refine c_region ?_
 refine qm rfl rfl ?_
 refine qm rfl rfl ?_
 refine step_pure rfl (pure_wshl (k := 31 - j) (by omega) rfl rfl) ?_
 refine qm rfl rfl ?_
 refine qm rfl rfl ?_
 refine step_as rfl (pure_sub rfl rfl) (show _ = Value.int .u64 ((j + 1 : Nat) : Int) from by rw [hs]) ?_
 refine step_pure rfl (pure_wshr (k := j + 1) (by omega) rfl rfl) ?_
 refine step_pure rfl (pure_wor rfl rfl) ?_
 refine qa rfl rfl ?_
 refine step_nil ?_
 refine c_ret ⟨_, res_tmp Try.results94 rfl, ?_⟩
 unfold rotr
 rw [show 32 - (j + 1) = 31 - j by omega]
theorem turned_any (x : W) (k : Nat) (w : World) (h1 : 1 ≤ k) (h2 : k ≤ 31) : Gives tb 91 [.int .u32 (wd x), .int .i64 (k : Int)] w (.int .u32 (wd (rotr x k))) := by
 refine gives_of (fn := Try.f91) Try.func91 rfl Try.ntmps91 rfl ?_
 repeat refine c_seq ?_
 refine c_region ?_
 refine qa rfl rfl ?_
 refine step_nil ?_
 repeat refine c_seq ?_
 refine c_region ?_
 refine qm rfl rfl ?_
 refine qm rfl rfl ?_
 refine step_pure rfl (pure_neg rfl) ?_
 refine step_gives rfl fun94 rfl (fun w _ _ => rotl_any x k w h1 h2) ?_
 refine qa rfl rfl ?_
 refine step_nil ?_
 exact c_ret ⟨_, res_tmp Try.results91 rfl, rfl⟩
theorem rturned_any (x : W) (k : Nat) (w : World) (h1 : 1 ≤ k) (h2 : k ≤ 31) : Gives tb 80 [.int .u32 (wd x), .int .u64 (k : Int)] w (.int .u32 (wd (rotr x k))) := by
 have hs : IntKind.u64.wrap (32 - (k : Int)) = ((32 - k : Nat) : Int) := by rw [IntKind.wrap_u64]; omega
 refine gives_of (fn := Try.f80) Try.func80 rfl Try.ntmps80 rfl ?_
 repeat refine c_seq ?_
 refine c_region ?_
 refine qa rfl rfl ?_
 refine step_nil ?_
 repeat refine c_seq ?_
 refine c_region ?_
 refine qm rfl rfl ?_
 refine qm rfl rfl ?_
 refine step_pure rfl (pure_wshr (k := k) (by omega) rfl rfl) ?_
 refine qm rfl rfl ?_
 refine qm rfl rfl ?_
 refine step_as rfl (pure_sub rfl rfl) (show _ = Value.int .u64 ((32 - k : Nat) : Int) from by rw [hs]) ?_
 refine step_pure rfl (pure_wshl (k := 32 - k) (by omega) rfl rfl) ?_
 refine step_pure rfl (pure_wor rfl rfl) ?_
 refine qa rfl rfl ?_
 refine step_nil ?_
 refine c_ret ⟨_, res_tmp Try.results80 rfl, ?_⟩
 rw [rotr_or]
theorem first_any (w : World) : Gives tb 83 [] w (.agg (wRow firstV.l).toArray) := by
 rw [firstV_row]
 refine gives_of (fn := Try.f83) Try.func83 rfl Try.ntmps83 rfl ?_
 repeat refine c_seq ?_
 refine c_region ?_
 refine step_alloc rfl zero113 (fun b0 => ?_)
 refine step_nil ?_
 repeat refine c_seq ?_
 refine c_region ?_
 refine step_pure rfl (pure_build_arr rfl zero113 rfl rfl rfl rfl) ?_
 refine step_store_agg 0 rfl rfl rfl (of_one rfl) rfl rfl rfl rfl (Nat.le_of_ble_eq_true rfl) rfl ?_
 refine step_nil ?_
 exact c_ret ⟨_, res_cell_agg (i := 0) Try.results83 rfl rfl rfl rfl rfl (Nat.le_of_ble_eq_true rfl) rfl, rfl⟩
theorem rfirst_any (w : World) : Gives tb 77 [] w (.agg (wRow firstV.l).toArray) := by
 rw [firstV_row]
 refine gives_of (fn := Try.f77) Try.func77 rfl Try.ntmps77 rfl ?_
 repeat refine c_seq ?_
 refine c_region ?_
 refine step_alloc rfl zero113 (fun b0 => ?_)
 refine step_nil ?_
 repeat refine c_seq ?_
 refine c_region ?_
 refine step_pure rfl (pure_build_arr rfl zero113 rfl rfl rfl rfl) ?_
 refine step_store_agg 0 rfl rfl rfl (of_one rfl) rfl rfl rfl rfl (Nat.le_of_ble_eq_true rfl) rfl ?_
 refine step_nil ?_
 exact c_ret ⟨_, res_cell_agg (i := 0) Try.results77 rfl rfl rfl rfl rfl (Nat.le_of_ble_eq_true rfl) rfl, rfl⟩
set_option maxRecDepth 100000 in
theorem parts_any (w : World) : Gives tb 92 [] w (.agg (wRow kW).toArray) := by
 rw [kW_row]
 refine gives_of (fn := Try.f92) Try.func92 rfl Try.ntmps92 rfl ?_
 repeat refine c_seq ?_
 refine c_region ?_
 refine step_alloc rfl zero129 (fun b0 => ?_)
 refine step_nil ?_
 repeat refine c_seq ?_
 refine c_region ?_
 refine step_pure rfl (pure_build_arr rfl zero129 rfl rfl rfl rfl) ?_
 refine step_store_agg 0 rfl rfl rfl (of_one rfl) rfl rfl rfl rfl (Nat.le_of_ble_eq_true rfl) rfl ?_
 refine step_nil ?_
 exact c_ret ⟨_, res_cell_agg (i := 0) Try.results92 rfl rfl rfl rfl rfl (Nat.le_of_ble_eq_true rfl) rfl, rfl⟩
set_option maxRecDepth 100000 in
theorem rparts_any (w : World) : Gives tb 78 [] w (.agg (wRow kW).toArray) := by
 rw [kW_row]
 refine gives_of (fn := Try.f78) Try.func78 rfl Try.ntmps78 rfl ?_
 repeat refine c_seq ?_
 refine c_region ?_
 refine step_alloc rfl zero129 (fun b0 => ?_)
 refine step_nil ?_
 repeat refine c_seq ?_
 refine c_region ?_
 refine step_pure rfl (pure_build_arr rfl zero129 rfl rfl rfl rfl) ?_
 refine step_store_agg 0 rfl rfl rfl (of_one rfl) rfl rfl rfl rfl (Nat.le_of_ble_eq_true rfl) rfl ?_
 refine step_nil ?_
 exact c_ret ⟨_, res_cell_agg (i := 0) Try.results78 rfl rfl rfl rfl rfl (Nat.le_of_ble_eq_true rfl) rfl, rfl⟩
end Go.Proofs.Ythieegnhjoehbaa
