/- The statement AesStreams, walked. -/
import Derived.Test.YtgpjbfedbncniaaA13
namespace Go.Proofs.Ytgpjbfedbncniaa
open Go.RowKit Go.Vc
set_option linter.unusedVariables false

/-- What is known of a slice that came in holds in each world that has grown from there. -/
theorem slv_of {E : Env} {v : Value} {xs : List Value} {w : World} (h : SlV E.w0 v xs) (k : Keep E.w0 w E.ws) (he : E.ws = []) : SlV w v xs := slv_keep h k (fun _ _ _ _ => by rw [he]; simp)

set_option maxHeartbeats 2000000 in
theorem aesstreams_any (key A bs : List Int) (c : Int) (v3 : Value) (w : World) (hk : key.length = 16) (hkb : Bytes key) (hA : A.length = 8) (hAb : Bytes A) (hv : SlV w v3 (row bs)) :
    Gives tb 4 [.agg (row key).toArray, .agg (row A).toArray, .int .i64 c, v3] w (.bool true) := by
  refine gives_of (fn := Try.f4) Try.func4 rfl Try.ntmps4 rfl ?_
  obtain ⟨base0, cap0, rfl, _⟩ := hv.is
  rw [row_len] at hv ⊢
  repeat refine c_seq ?_
  refine c_region ?_
  refine step_box_agg rfl rfl (fun b4 => ?_)
  refine step_box_agg rfl rfl (fun b5 => ?_)
  refine step_pure rfl (pure_assign rfl) ?_
  refine step_nil ?_
  repeat refine c_seq ?_
  refine c_region ?_
  refine step_gives rfl fun8 rfl (fun w _ _ => awake_any w) ?_
  refine step_pure rfl (pure_assign rfl) ?_
  refine step_nil ?_
  repeat refine c_seq ?_
  refine c_region ?_
  refine step_pure rfl (pure_move rfl) ?_
  refine step_pure rfl (pure_len_slice rfl rfl rfl) ?_
  refine step_pure rfl (pure_gtr rfl rfl) ?_
  refine step_nil ?_
  refine c_cond rfl (fun h => ?_) (fun h => ?_)
  · repeat refine c_seq ?_
    refine c_region ?_
    refine step_pure rfl (pure_move rfl) ?_
    refine step_pure rfl (pure_assign rfl) ?_
    refine step_nil ?_
    exact c_ret ⟨_, res_tmp Try.results4 rfl, rfl⟩
  · have hlen : bs.length ≤ 200 := by have := of_decide_eq_false h; omega
    clear h
    refine c_skip ?_
    repeat refine c_seq ?_
    refine c_region ?_
    refine step_pure rfl (pure_load_agg (i := 1) rfl rfl rfl rfl rfl (by simp only [row_len, hk]; decide) (ints_whole _ _ 16 hk)) ?_
    refine step_pure rfl (pure_load_agg (i := 0) rfl rfl rfl rfl rfl (by simp only [row_len, hA]; decide) (ints_whole _ _ 8 hA)) ?_
    refine step_pure rfl (pure_move rfl) ?_
    refine step_pure rfl (pure_move rfl) ?_
    refine step_makes rfl fun13 rfl (fun w hh hkp => stream13 key A bs c _ w hk hkb hA hAb (slv_of hv hkp rfl) (by omega)) ?_
    rintro v m' ⟨base1, len1, cap1, e1, rfl, rfl, hs1⟩
    refine step_pure rfl (pure_move rfl) ?_
    refine step_pure rfl (pure_extract rfl rfl) ?_
    refine step_pure rfl (pure_extract rfl rfl) ?_
    refine step_pure rfl (pure_assign rfl) ?_
    refine step_pure rfl (pure_assign rfl) ?_
    refine step_nil ?_
    repeat refine c_seq ?_
    refine c_region ?_
    refine step_pure rfl (pure_load_agg (i := 2) rfl rfl rfl rfl rfl (by simp only [row_len, hk]; decide) (ints_whole _ _ 16 hk)) ?_
    refine step_pure rfl (pure_load_agg (i := 1) rfl rfl rfl rfl rfl (by simp only [row_len, hA]; decide) (ints_whole _ _ 8 hA)) ?_
    refine step_pure rfl (pure_move rfl) ?_
    refine step_pure rfl (pure_move rfl) ?_
    refine step_makes rfl fun14 rfl (fun w hh hkp => stream14 key A bs c _ w hk hkb hA hAb (slv_of hv hkp rfl) (by omega)) ?_
    rintro v m' ⟨base2, len2, cap2, e2, rfl, rfl, hs2⟩
    rw [routF_eq key A bs c hk hkb hA hAb] at hs2
    refine step_pure rfl (pure_move rfl) ?_
    refine step_pure rfl (pure_extract rfl rfl) ?_
    refine step_pure rfl (pure_extract rfl rfl) ?_
    refine step_pure rfl (pure_assign rfl) ?_
    refine step_pure rfl (pure_assign rfl) ?_
    refine step_nil ?_
    repeat refine c_seq ?_
    refine c_region ?_
    refine step_pure rfl (pure_move rfl) ?_
    refine step_pure rfl (pure_move rfl) ?_
    first | refine step_pure rfl (pure_move rfl) ?_ | refine step_pass rfl rfl rfl ?_
    first | refine step_pure rfl (pure_bytes_string (j := 1) rfl rfl rfl rfl rfl rfl rfl rfl hs1 rfl) ?_ | refine step_pass rfl rfl rfl ?_
    first | refine step_pure rfl (pure_move rfl) ?_ | refine step_pass rfl rfl rfl ?_
    first | refine step_pure rfl (pure_bytes_string (j := 0) rfl rfl rfl rfl rfl rfl rfl rfl hs2 rfl) ?_ | refine step_pass rfl rfl rfl ?_
    first | refine step_as rfl (pure_str_eql rfl rfl) (show _ = Value.bool true from by rw [beq_self_eq_true]) ?_ | refine step_pass rfl rfl rfl ?_
    first | refine step_pure rfl (pure_pick_yes rfl rfl) ?_ | refine step_pure rfl (pure_pick_no rfl rfl) ?_ | refine step_pure rfl (pure_pick_bool rfl rfl rfl) ?_
    refine step_pure rfl (pure_move rfl) ?_
    first | refine step_pure rfl (pure_move rfl) ?_ | refine step_pass rfl rfl rfl ?_
    first | refine step_pure rfl (pure_move rfl) ?_ | refine step_pass rfl rfl rfl ?_
    first | refine step_as rfl (pure_eql rfl rfl) (show _ = Value.bool true from by rw [beq_self_eq_true]) ?_ | refine step_pass rfl rfl rfl ?_
    first | refine step_pure rfl (pure_pick_yes rfl rfl) ?_ | refine step_pure rfl (pure_pick_no rfl rfl) ?_ | refine step_pure rfl (pure_pick_bool rfl rfl rfl) ?_
    refine step_pure rfl (pure_assign rfl) ?_
    refine step_nil ?_
    exact c_ret ⟨_, res_tmp Try.results4 rfl, rfl⟩
end Go.Proofs.Ytgpjbfedbncniaa
