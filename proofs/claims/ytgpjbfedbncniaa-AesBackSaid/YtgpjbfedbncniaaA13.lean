/- The statement AesTells, walked. -/
import Derived.Test.YtgpjbfedbncniaaP4
import Derived.Test.YtgpjbfedbncniaaA10
import Derived.Test.YtgpjbfedbncniaaVs
namespace Go.Proofs.Ytgpjbfedbncniaa
open Go.RowKit Go.Vc
set_option linter.unusedVariables false

theorem guardKey : tb.P.eqGuardType tb.P.depth 22 = false := by kernel_rfl
theorem guardKeys : tb.P.eqGuardType tb.P.depth 25 = false := by kernel_rfl

set_option maxHeartbeats 2000000 in
theorem aestells_any (key b : List Int) (w : World) (hk : key.length = 16) (hkb : Bytes key) (hl : b.length = 16) (hbb : Bytes b) :
    Gives tb 3 [.agg (row key).toArray, .agg (row b).toArray] w (.bool true) := by
  refine gives_of (fn := Try.f3) Try.func3 rfl Try.ntmps3 rfl ?_
  have hX := blkF_len boxT (expF boxT key) b hl
  have hY := expF_len boxT key hk
  have h9 := fun w => ablock_any key b w hk hkb hl hbb
  have h10 := fun w => rblock_any key b w hk hl
  have h11 := fun w => keys_any key w hk hkb
  have h12 := fun w => rkeys_any key w hk
  rw [rblkF_eq _ _ hl hbb] at h10
  rw [rkF_eq key hk hkb] at h10 h12
  generalize blkF boxT (expF boxT key) b = X at hX h9 h10
  generalize expF boxT key = Y at hY h11 h12
  repeat refine c_seq ?_
  refine c_region ?_
  refine step_box_agg rfl rfl (fun b2 => ?_)
  refine step_box_agg rfl rfl (fun b3 => ?_)
  refine step_pure rfl (pure_assign rfl) ?_
  refine step_nil ?_
  repeat refine c_seq ?_
  refine c_region ?_
  refine step_gives rfl fun8 rfl (fun w _ _ => awake_any w) ?_
  refine step_pure rfl (pure_assign rfl) ?_
  refine step_nil ?_
  repeat refine c_seq ?_
  refine d_region [1, 9, 19, 27, 35, 43, 51, 59, 65, 73, 81, 91, 99, 107, 115, 121, 129, 137] follows (by kernel_rfl) ?_
  refine d_pure0 rfl rfl rfl (pure_move rfl) ?_
  refine d_pure0 rfl rfl rfl (pure_move rfl) ?_
  first | refine d_pure1 rfl rfl rfl (pure_load_agg (i := 1) rfl rfl rfl rfl rfl (by simp only [row_len, hk]; decide) (ints_whole _ _ 16 hk)) (by first | exact SubMem.refl _ | exact (SubMem.refl _).cons | exact (SubMem.refl _).cons.cons | exact (SubMem.refl _).cons.cons.cons | exact (SubMem.refl _).cons.cons.cons.cons) ?_ | refine d_pass rfl rfl rfl (fun _ => (by first | exact SubMem.refl _ | exact (SubMem.refl _).cons | exact (SubMem.refl _).cons.cons | exact (SubMem.refl _).cons.cons.cons | exact (SubMem.refl _).cons.cons.cons.cons)) rfl rfl rfl ?_
  first | refine d_pure1 rfl rfl rfl (pure_load_agg (i := 0) rfl rfl rfl rfl rfl (by simp only [row_len, hl]; decide) (ints_whole _ _ 16 hl)) (by first | exact SubMem.refl _ | exact (SubMem.refl _).cons | exact (SubMem.refl _).cons.cons | exact (SubMem.refl _).cons.cons.cons | exact (SubMem.refl _).cons.cons.cons.cons) ?_ | refine d_pass rfl rfl rfl (fun _ => (by first | exact SubMem.refl _ | exact (SubMem.refl _).cons | exact (SubMem.refl _).cons.cons | exact (SubMem.refl _).cons.cons.cons | exact (SubMem.refl _).cons.cons.cons.cons)) rfl rfl rfl ?_
  first | refine d_gives rfl rfl rfl fun9 rfl (fun w _ _ => h9 w) (by first | exact SubMem.refl _ | exact (SubMem.refl _).cons | exact (SubMem.refl _).cons.cons | exact (SubMem.refl _).cons.cons.cons | exact (SubMem.refl _).cons.cons.cons.cons) ?_ | refine d_pass rfl rfl rfl (fun _ => (by first | exact SubMem.refl _ | exact (SubMem.refl _).cons | exact (SubMem.refl _).cons.cons | exact (SubMem.refl _).cons.cons.cons | exact (SubMem.refl _).cons.cons.cons.cons)) rfl rfl rfl ?_
  first | refine d_pure1 rfl rfl rfl (pure_load_agg (i := 1) rfl rfl rfl rfl rfl (by simp only [row_len, hk]; decide) (ints_whole _ _ 16 hk)) (by first | exact SubMem.refl _ | exact (SubMem.refl _).cons | exact (SubMem.refl _).cons.cons | exact (SubMem.refl _).cons.cons.cons | exact (SubMem.refl _).cons.cons.cons.cons) ?_ | refine d_pass rfl rfl rfl (fun _ => (by first | exact SubMem.refl _ | exact (SubMem.refl _).cons | exact (SubMem.refl _).cons.cons | exact (SubMem.refl _).cons.cons.cons | exact (SubMem.refl _).cons.cons.cons.cons)) rfl rfl rfl ?_
  first | refine d_pure1 rfl rfl rfl (pure_load_agg (i := 0) rfl rfl rfl rfl rfl (by simp only [row_len, hl]; decide) (ints_whole _ _ 16 hl)) (by first | exact SubMem.refl _ | exact (SubMem.refl _).cons | exact (SubMem.refl _).cons.cons | exact (SubMem.refl _).cons.cons.cons | exact (SubMem.refl _).cons.cons.cons.cons) ?_ | refine d_pass rfl rfl rfl (fun _ => (by first | exact SubMem.refl _ | exact (SubMem.refl _).cons | exact (SubMem.refl _).cons.cons | exact (SubMem.refl _).cons.cons.cons | exact (SubMem.refl _).cons.cons.cons.cons)) rfl rfl rfl ?_
  first | refine d_gives rfl rfl rfl fun10 rfl (fun w _ _ => h10 w) (by first | exact SubMem.refl _ | exact (SubMem.refl _).cons | exact (SubMem.refl _).cons.cons | exact (SubMem.refl _).cons.cons.cons | exact (SubMem.refl _).cons.cons.cons.cons) ?_ | refine d_pass rfl rfl rfl (fun _ => (by first | exact SubMem.refl _ | exact (SubMem.refl _).cons | exact (SubMem.refl _).cons.cons | exact (SubMem.refl _).cons.cons.cons | exact (SubMem.refl _).cons.cons.cons.cons)) rfl rfl rfl ?_
  first | refine d_as0 rfl rfl rfl (pure_eql_arr rfl rfl guardKey rfl rfl rfl rfl rfl rfl hX hX) (show _ = Value.bool true from by simp) ?_ | refine d_pass rfl rfl rfl (fun h => by cases h) rfl rfl rfl ?_
  first | refine d_pure0 rfl rfl rfl (pure_pick_yes rfl rfl) ?_ | refine d_pure0 rfl rfl rfl (pure_pick_no rfl rfl) ?_ | refine d_pure0 rfl rfl rfl (pure_pick_bool rfl rfl rfl) ?_
  refine d_pure0 rfl rfl rfl (pure_move rfl) ?_
  first | refine d_pure1 rfl rfl rfl (pure_load_agg (i := 1) rfl rfl rfl rfl rfl (by simp only [row_len, hk]; decide) (ints_whole _ _ 16 hk)) (by first | exact SubMem.refl _ | exact (SubMem.refl _).cons | exact (SubMem.refl _).cons.cons | exact (SubMem.refl _).cons.cons.cons | exact (SubMem.refl _).cons.cons.cons.cons) ?_ | refine d_pass rfl rfl rfl (fun _ => (by first | exact SubMem.refl _ | exact (SubMem.refl _).cons | exact (SubMem.refl _).cons.cons | exact (SubMem.refl _).cons.cons.cons | exact (SubMem.refl _).cons.cons.cons.cons)) rfl rfl rfl ?_
  first | refine d_gives rfl rfl rfl fun11 rfl (fun w _ _ => h11 w) (by first | exact SubMem.refl _ | exact (SubMem.refl _).cons | exact (SubMem.refl _).cons.cons | exact (SubMem.refl _).cons.cons.cons | exact (SubMem.refl _).cons.cons.cons.cons) ?_ | refine d_pass rfl rfl rfl (fun _ => (by first | exact SubMem.refl _ | exact (SubMem.refl _).cons | exact (SubMem.refl _).cons.cons | exact (SubMem.refl _).cons.cons.cons | exact (SubMem.refl _).cons.cons.cons.cons)) rfl rfl rfl ?_
  first | refine d_pure1 rfl rfl rfl (pure_load_agg (i := 1) rfl rfl rfl rfl rfl (by simp only [row_len, hk]; decide) (ints_whole _ _ 16 hk)) (by first | exact SubMem.refl _ | exact (SubMem.refl _).cons | exact (SubMem.refl _).cons.cons | exact (SubMem.refl _).cons.cons.cons | exact (SubMem.refl _).cons.cons.cons.cons) ?_ | refine d_pass rfl rfl rfl (fun _ => (by first | exact SubMem.refl _ | exact (SubMem.refl _).cons | exact (SubMem.refl _).cons.cons | exact (SubMem.refl _).cons.cons.cons | exact (SubMem.refl _).cons.cons.cons.cons)) rfl rfl rfl ?_
  first | refine d_gives rfl rfl rfl fun12 rfl (fun w _ _ => h12 w) (by first | exact SubMem.refl _ | exact (SubMem.refl _).cons | exact (SubMem.refl _).cons.cons | exact (SubMem.refl _).cons.cons.cons | exact (SubMem.refl _).cons.cons.cons.cons) ?_ | refine d_pass rfl rfl rfl (fun _ => (by first | exact SubMem.refl _ | exact (SubMem.refl _).cons | exact (SubMem.refl _).cons.cons | exact (SubMem.refl _).cons.cons.cons | exact (SubMem.refl _).cons.cons.cons.cons)) rfl rfl rfl ?_
  first | refine d_pure0 rfl rfl rfl (pure_eql_arr2 rfl rfl guardKeys rfl rfl rfl rfl rfl rfl rfl rfl rfl rfl hY) ?_ | refine d_pass rfl rfl rfl (fun h => by cases h) rfl rfl rfl ?_
  first | refine d_pure0 rfl rfl rfl (pure_pick_yes rfl rfl) ?_ | refine d_pure0 rfl rfl rfl (pure_pick_no rfl rfl) ?_ | refine d_pure0 rfl rfl rfl (pure_pick_bool rfl rfl rfl) ?_
  refine d_pure0 rfl rfl rfl (pure_assign rfl) ?_
  refine d_nil ?_
  exact c_ret ⟨_, res_tmp Try.results3 rfl, rfl⟩
end Go.Proofs.Ytgpjbfedbncniaa
