/- The statement AesBack, walked. -/
import Derived.Test.YtgpjbfedbncniaaA14
import Derived.Test.YtgpjbfedbncniaaP5
namespace Go.Proofs.Ytgpjbfedbncniaa
open Go.RowKit Go.Vc
set_option linter.unusedVariables false

theorem row_append (a b : List Int) : row a ++ row b = row (a ++ b) := (List.map_append ..).symm
theorem slis_len {e : Ent} {base : Option Addr} {len cap : Nat} {l : List Int} (h : SlIs u8T 5 e base len cap (row l)) : len = l.length := by
  have := h.len
  rw [row_len] at this
  have h1 : l.length = len * 1 := this
  omega

set_option maxHeartbeats 4000000 in
theorem aesback_any (key A bs : List Int) (c cut : Int) (v3 : Value) (w : World) (hk : key.length = 16) (hkb : Bytes key) (hA : A.length = 8) (hAb : Bytes A) (hv : SlV w v3 (row bs)) (hb : Bytes bs)
    (hc : 0 ≤ c ∧ c < 4294967296) (hcut : 0 ≤ cut ∧ cut < 256) :
    Gives tb 5 [.agg (row key).toArray, .agg (row A).toArray, .int .u32 c, v3, .int .u8 cut] w (.bool true) := by
  refine gives_of (fn := Try.f5) Try.func5 rfl Try.ntmps5 rfl ?_
  obtain ⟨base0, cap0, rfl, _⟩ := hv.is
  rw [row_len] at hv ⊢
  have hroom : bs.length ≤ cap0 := hv.room _ _ _ rfl
  have hcw : IntKind.i64.wrap c = c := wrap_i64 (by omega) (by omega)
  have hcutw : IntKind.i64.wrap cut = cut := wrap_i64 (by omega) (by omega)
  have hnc : ¬ c < 0 := by omega
  repeat refine c_seq ?_
  refine c_region ?_
  refine step_box_agg rfl rfl (fun b5 => ?_)
  refine step_box_agg rfl rfl (fun b6 => ?_)
  refine step_pure rfl (pure_assign rfl) ?_
  refine step_nil ?_
  repeat refine c_seq ?_
  refine c_region ?_
  refine step_gives rfl fun8 rfl (fun w _ _ => awake_any w) ?_
  refine step_pure rfl (pure_assign rfl) ?_
  refine step_nil ?_
  repeat refine c_seq ?_
  refine c_region ?_
  refine step_pure rfl (pure_move rfl) ?_
  refine step_pure rfl (pure_len_slice rfl rfl rfl) ?_
  refine step_pure rfl (pure_gtr rfl rfl) ?_
  refine step_nil ?_
  refine c_cond rfl (fun h => ?_) (fun h => ?_)
  · repeat refine c_seq ?_
    refine c_region ?_
    refine step_pure rfl (pure_move rfl) ?_
    refine step_pure rfl (pure_assign rfl) ?_
    refine step_nil ?_
    exact c_ret ⟨_, res_tmp Try.results5 rfl, rfl⟩
  · have hlen : bs.length ≤ 200 := by have := of_decide_eq_false h; omega
    clear h
    refine c_skip ?_
    repeat refine c_seq ?_
    refine c_region ?_
    refine step_pure rfl (pure_move rfl) ?_
    refine step_pure rfl (pure_slv_string rfl rfl rfl rfl rfl rfl rfl hv (fun _ _ _ _ => List.not_mem_nil)) ?_
    refine step_pure rfl (pure_assign rfl) ?_
    refine step_nil ?_
    repeat refine c_seq ?_
    refine c_region ?_
    refine step_pure rfl (pure_load_agg (i := 1) rfl rfl rfl rfl rfl (by simp only [row_len, hk]; decide) (ints_whole _ _ 16 hk)) ?_
    refine step_pure rfl (pure_load_agg (i := 0) rfl rfl rfl rfl rfl (by simp only [row_len, hA]; decide) (ints_whole _ _ 8 hA)) ?_
    refine step_pure rfl (pure_move rfl) ?_
    refine step_as rfl (pure_conv rfl rfl rfl rfl) (show _ = Value.int .i64 c from by rw [hcw]) ?_
    refine step_pure rfl (pure_move rfl) ?_
    refine step_makes rfl fun13 rfl (fun w hh hkp => stream13 key A bs c _ w hk hkb hA hAb (slv_of hv hkp rfl) (by omega)) ?_
    rintro v m' ⟨base1, len1, cap1, e1, rfl, rfl, hs1⟩
    rw [if_neg hnc] at hs1 ⊢
    have hl1 := slis_len hs1
    rw [outF_len] at hl1
    refine step_pure rfl (pure_move rfl) ?_
    refine step_pure rfl (pure_extract rfl rfl) ?_
    refine step_pure rfl (pure_extract rfl rfl) ?_
    refine step_pure rfl (pure_assign rfl) ?_
    refine step_pure rfl (pure_assign rfl) ?_
    refine step_nil ?_
    repeat refine c_seq ?_
    refine c_region ?_
    refine step_pure rfl (pure_load_agg (i := 2) rfl rfl rfl rfl rfl (by simp only [row_len, hk]; decide) (ints_whole _ _ 16 hk)) ?_
    refine step_pure rfl (pure_load_agg (i := 1) rfl rfl rfl rfl rfl (by simp only [row_len, hA]; decide) (ints_whole _ _ 8 hA)) ?_
    refine step_pure rfl (pure_move rfl) ?_
    refine step_as rfl (pure_conv rfl rfl rfl rfl) (show _ = Value.int .i64 c from by rw [hcw]) ?_
    refine step_pure rfl (pure_move rfl) ?_
    refine step_makes rfl fun13 rfl (fun w hh hkp => stream13 key A (outF key A bs c) c _ w hk hkb hA hAb (slv_own (j := 0) rfl hs1 hh rfl) (by rw [outF_len]; omega)) ?_
    rintro v m' ⟨base2, len2, cap2, e2, rfl, rfl, hs2⟩
    rw [if_neg hnc] at hs2 ⊢
    rw [outF_back key A bs c hAb hb] at hs2
    obtain ⟨k, hkk, h16⟩ : ∃ k : Nat, min (cut % 14) ((bs.length : Int) / 16) = k ∧ 16 * k ≤ bs.length := ⟨(min (cut % 14) ((bs.length : Int) / 16)).toNat, by omega, by omega⟩
    refine step_pure rfl (pure_move rfl) ?_
    refine step_pure rfl (pure_extract rfl rfl) ?_
    refine step_pure rfl (pure_extract rfl rfl) ?_
    refine step_pure rfl (pure_assign rfl) ?_
    refine step_pure rfl (pure_assign rfl) ?_
    refine step_nil ?_
    repeat refine c_seq ?_
    refine c_region ?_
    refine step_pure rfl (pure_move rfl) ?_
    refine step_as rfl (pure_conv rfl rfl rfl rfl) (show _ = Value.int .i64 cut from by rw [hcutw]) ?_
    first | refine step_pure rfl (pure_rem_pos rfl rfl (by omega) (by decide)) ?_ | refine step_pure rfl (pure_rem rfl rfl (by decide)) ?_
    refine step_pure rfl (pure_move rfl) ?_
    refine step_pure rfl (pure_len_slice rfl rfl rfl) ?_
    first | refine step_pure rfl (pure_quo_pos rfl rfl (by omega) (by omega) (by decide)) ?_ | refine step_pure rfl (pure_quo rfl rfl (by decide)) ?_
    refine step_as rfl (pure_min rfl rfl) (show _ = Value.int .i64 k from by rw [hkk]) ?_
    refine step_pure rfl (pure_assign rfl) ?_
    refine step_nil ?_
    have hv1 : SlV w (subS base0 cap0 1 0 (16 * k)) (row (bs.take (16 * k))) := by
      have := slv_sub (lo := 0) (hi := 16 * k) hv (by omega) (by omega)
      rw [ints_sub] at this
      simpa using this
    have hv2 : SlV w (subS base0 cap0 1 (16 * k) bs.length) (row (bs.drop (16 * k))) := by
      have := slv_sub (lo := 16 * k) (hi := bs.length) hv (by omega) (by omega)
      rw [ints_sub, List.take_of_length_le (by rw [List.length_drop]; omega)] at this
      exact this
    have hl3 : (bs.take (16 * k)).length ≤ 200 := by rw [List.length_take]; omega
    have hl4 : (bs.drop (16 * k)).length ≤ 200 := by rw [List.length_drop]; omega
    repeat refine c_seq ?_
    refine d_region [3, 11, 17, 25, 33, 41, 49, 57, 69, 73, 81, 89, 97, 105] follows (by kernel_rfl) ?_
    refine d_pure1 rfl rfl rfl (pure_load_agg (i := 3) rfl rfl rfl rfl rfl (by simp only [row_len, hk]; decide) (ints_whole _ _ 16 hk)) (by first | exact SubMem.refl _ | exact (SubMem.refl _).cons | exact (SubMem.refl _).cons.cons | exact (SubMem.refl _).cons.cons.cons | exact (SubMem.refl _).cons.cons.cons.cons) ?_
    refine d_pure1 rfl rfl rfl (pure_load_agg (i := 2) rfl rfl rfl rfl rfl (by simp only [row_len, hA]; decide) (ints_whole _ _ 8 hA)) (by first | exact SubMem.refl _ | exact (SubMem.refl _).cons | exact (SubMem.refl _).cons.cons | exact (SubMem.refl _).cons.cons.cons | exact (SubMem.refl _).cons.cons.cons.cons) ?_
    refine d_pure0 rfl rfl rfl (pure_move rfl) ?_
    refine d_as0 rfl rfl rfl (pure_conv rfl rfl rfl rfl) (show _ = Value.int .i64 c from by rw [hcw]) ?_
    refine d_pure0 rfl rfl rfl (pure_move rfl) ?_
    refine d_pure0 rfl rfl rfl (pure_move rfl) ?_
    first | refine d_pure0 rfl rfl rfl (pure_mul64 rfl rfl (by omega) (by omega)) ?_ | refine d_pure0 rfl rfl rfl (pure_mul rfl rfl) ?_
    refine d_as0 rfl rfl rfl (pure_sub_hi rfl rfl rfl rfl rfl (by omega) (by omega)) (show subS base0 cap0 1 0 (16 * (k : Int)).toNat = subS base0 cap0 1 0 (16 * k) from by congr 1 <;> omega) ?_
    refine d_makes rfl rfl rfl fun13 rfl (fun w hh hkp => stream13 key A (bs.take (16 * k)) c _ w hk hkb hA hAb (slv_of hv1 hkp rfl) (by omega)) (by first | exact SubMem.refl _ | exact (SubMem.refl _).cons | exact (SubMem.refl _).cons.cons | exact (SubMem.refl _).cons.cons.cons | exact (SubMem.refl _).cons.cons.cons.cons) rfl ?_
    rintro v m' ⟨base3, len3, cap3, e3, rfl, rfl, hs3⟩
    rw [if_neg hnc] at hs3 ⊢
    have hnc2 : ¬ c + (k : Int) < 0 := by omega
    refine d_pure0 rfl rfl rfl (pure_move rfl) ?_
    refine d_pure0 rfl rfl rfl (pure_extract rfl rfl) ?_
    refine d_pure0 rfl rfl rfl (pure_extract rfl rfl) ?_
    refine d_pure0 rfl rfl rfl (pure_assign rfl) ?_
    refine d_pure0 rfl rfl rfl (pure_assign rfl) ?_
    refine d_nil ?_
    repeat refine c_seq ?_
    refine d_region [3, 11, 17, 25, 33, 41, 49, 57, 65, 73, 85, 89, 97, 105, 113, 121] follows (by kernel_rfl) ?_
    refine d_pure1 rfl rfl rfl (pure_load_agg (i := 4) rfl rfl rfl rfl rfl (by simp only [row_len, hk]; decide) (ints_whole _ _ 16 hk)) (by first | exact SubMem.refl _ | exact (SubMem.refl _).cons | exact (SubMem.refl _).cons.cons | exact (SubMem.refl _).cons.cons.cons | exact (SubMem.refl _).cons.cons.cons.cons) ?_
    refine d_pure1 rfl rfl rfl (pure_load_agg (i := 3) rfl rfl rfl rfl rfl (by simp only [row_len, hA]; decide) (ints_whole _ _ 8 hA)) (by first | exact SubMem.refl _ | exact (SubMem.refl _).cons | exact (SubMem.refl _).cons.cons | exact (SubMem.refl _).cons.cons.cons | exact (SubMem.refl _).cons.cons.cons.cons) ?_
    refine d_pure0 rfl rfl rfl (pure_move rfl) ?_
    refine d_as0 rfl rfl rfl (pure_conv rfl rfl rfl rfl) (show _ = Value.int .i64 c from by rw [hcw]) ?_
    refine d_pure0 rfl rfl rfl (pure_move rfl) ?_
    first | refine d_pure0 rfl rfl rfl (pure_add64 rfl rfl (by omega) (by omega)) ?_ | refine d_pure0 rfl rfl rfl (pure_add rfl rfl) ?_
    refine d_pure0 rfl rfl rfl (pure_move rfl) ?_
    refine d_pure0 rfl rfl rfl (pure_move rfl) ?_
    first | refine d_pure0 rfl rfl rfl (pure_mul64 rfl rfl (by omega) (by omega)) ?_ | refine d_pure0 rfl rfl rfl (pure_mul rfl rfl) ?_
    refine d_as0 rfl rfl rfl (pure_sub_lo rfl rfl rfl rfl rfl (by omega) (by omega)) (show subS base0 cap0 1 (16 * (k : Int)).toNat bs.length = subS base0 cap0 1 (16 * k) bs.length from by congr 1 <;> omega) ?_
    refine d_makes rfl rfl rfl fun13 rfl (fun w hh hkp => stream13 key A (bs.drop (16 * k)) (c + k) _ w hk hkb hA hAb (slv_of hv2 hkp rfl) (by omega)) (by first | exact SubMem.refl _ | exact (SubMem.refl _).cons | exact (SubMem.refl _).cons.cons | exact (SubMem.refl _).cons.cons.cons | exact (SubMem.refl _).cons.cons.cons.cons) rfl ?_
    rintro v m' ⟨base4, len4, cap4, e4, rfl, rfl, hs4⟩
    rw [if_neg hnc2] at hs4 ⊢
    have hln3 := slis_len hs3
    have hln4 := slis_len hs4
    rw [outF_len] at hln3 hln4
    refine d_pure0 rfl rfl rfl (pure_move rfl) ?_
    refine d_pure0 rfl rfl rfl (pure_extract rfl rfl) ?_
    refine d_pure0 rfl rfl rfl (pure_extract rfl rfl) ?_
    refine d_pure0 rfl rfl rfl (pure_assign rfl) ?_
    refine d_pure0 rfl rfl rfl (pure_assign rfl) ?_
    refine d_nil ?_
    repeat refine c_seq ?_
    refine d_region2 [1, 9, 17, 25, 33, 41, 49, 57, 65, 73, 81, 89, 97, 105, 113, 121, 129, 137, 145, 155, 161, 169, 177, 185, 193, 203, 209, 217, 225, 233, 241, 251, 257, 265, 277, 285, 289, 297, 305, 313, 321, 329, 337, 345, 353, 361] ([e2, e1, ⟨b6, row A, 28⟩, ⟨b5, row key, 22⟩]) follows (by kernel_rfl) ?_
    refine d_pure0 rfl rfl rfl (pure_move rfl) ?_
    refine d_pure0 rfl rfl rfl (pure_move rfl) ?_
    first | refine d_pure0 rfl rfl rfl (pure_move rfl) ?_ | refine d_pass rfl rfl rfl (fun h => by cases h) rfl rfl rfl ?_
    first | refine d_as0 rfl rfl rfl (pure_eql rfl rfl) (show _ = Value.bool true from rfl) ?_ | refine d_pass rfl rfl rfl (fun h => by cases h) rfl rfl rfl ?_
    first | refine d_pure0 rfl rfl rfl (pure_pick_yes rfl rfl) ?_ | refine d_pure0 rfl rfl rfl (pure_pick_no rfl rfl) ?_ | refine d_pure0 rfl rfl rfl (pure_pick_bool rfl rfl rfl) ?_
    refine d_pure0 rfl rfl rfl (pure_move rfl) ?_
    first | refine d_pure0 rfl rfl rfl (pure_move rfl) ?_ | refine d_pass rfl rfl rfl (fun h => by cases h) rfl rfl rfl ?_
    first | refine d_as0 rfl rfl rfl (pure_eql rfl rfl) (show _ = Value.bool true from rfl) ?_ | refine d_pass rfl rfl rfl (fun h => by cases h) rfl rfl rfl ?_
    first | refine d_pure0 rfl rfl rfl (pure_pick_yes rfl rfl) ?_ | refine d_pure0 rfl rfl rfl (pure_pick_no rfl rfl) ?_ | refine d_pure0 rfl rfl rfl (pure_pick_bool rfl rfl rfl) ?_
    refine d_pure0 rfl rfl rfl (pure_move rfl) ?_
    first | refine d_pure0 rfl rfl rfl (pure_move rfl) ?_ | refine d_pass rfl rfl rfl (fun h => by cases h) rfl rfl rfl ?_
    first | refine d_as0 rfl rfl rfl (pure_eql rfl rfl) (show _ = Value.bool true from rfl) ?_ | refine d_pass rfl rfl rfl (fun h => by cases h) rfl rfl rfl ?_
    first | refine d_pure0 rfl rfl rfl (pure_pick_yes rfl rfl) ?_ | refine d_pure0 rfl rfl rfl (pure_pick_no rfl rfl) ?_ | refine d_pure0 rfl rfl rfl (pure_pick_bool rfl rfl rfl) ?_
    refine d_pure0 rfl rfl rfl (pure_move rfl) ?_
    first | refine d_pure0 rfl rfl rfl (pure_move rfl) ?_ | refine d_pass rfl rfl rfl (fun h => by cases h) rfl rfl rfl ?_
    first | refine d_as0 rfl rfl rfl (pure_eql rfl rfl) (show _ = Value.bool true from rfl) ?_ | refine d_pass rfl rfl rfl (fun h => by cases h) rfl rfl rfl ?_
    first | refine d_pure0 rfl rfl rfl (pure_pick_yes rfl rfl) ?_ | refine d_pure0 rfl rfl rfl (pure_pick_no rfl rfl) ?_ | refine d_pure0 rfl rfl rfl (pure_pick_bool rfl rfl rfl) ?_
    refine d_pure0 rfl rfl rfl (pure_move rfl) ?_
    first | refine d_pure0 rfl rfl rfl (pure_move rfl) ?_ | refine d_pass rfl rfl rfl (fun h => by cases h) rfl rfl rfl ?_
    first | refine d_pure1 rfl rfl rfl (pure_bytes_string (j := 0) rfl rfl rfl rfl rfl rfl rfl rfl hs2 rfl) (by first | exact SubMem.refl _ | exact (SubMem.refl _).cons | exact (SubMem.refl _).cons.cons | exact (SubMem.refl _).cons.cons.cons | exact (SubMem.refl _).cons.cons.cons.cons) ?_ | refine d_pass rfl rfl rfl (fun _ => (by first | exact SubMem.refl _ | exact (SubMem.refl _).cons | exact (SubMem.refl _).cons.cons | exact (SubMem.refl _).cons.cons.cons | exact (SubMem.refl _).cons.cons.cons.cons)) rfl rfl rfl ?_
    first | refine d_pure0 rfl rfl rfl (pure_move rfl) ?_ | refine d_pass rfl rfl rfl (fun h => by cases h) rfl rfl rfl ?_
    first | refine d_as0 rfl rfl rfl (pure_str_eql rfl rfl) (show _ = Value.bool true from by rw [beq_self_eq_true]) ?_ | refine d_pass rfl rfl rfl (fun h => by cases h) rfl rfl rfl ?_
    first | refine d_pure0 rfl rfl rfl (pure_pick_yes rfl rfl) ?_ | refine d_pure0 rfl rfl rfl (pure_pick_no rfl rfl) ?_ | refine d_pure0 rfl rfl rfl (pure_pick_bool rfl rfl rfl) ?_
    refine d_pure0 rfl rfl rfl (pure_move rfl) ?_
    first | refine d_pure0 rfl rfl rfl (pure_move rfl) ?_ | refine d_pass rfl rfl rfl (fun h => by cases h) rfl rfl rfl ?_
    first | refine d_pure1 rfl rfl rfl (pure_slv_string rfl rfl rfl rfl rfl rfl rfl hv (fun _ _ _ _ => List.not_mem_nil)) (by first | exact SubMem.refl _ | exact (SubMem.refl _).cons | exact (SubMem.refl _).cons.cons | exact (SubMem.refl _).cons.cons.cons | exact (SubMem.refl _).cons.cons.cons.cons) ?_ | refine d_pass rfl rfl rfl (fun _ => (by first | exact SubMem.refl _ | exact (SubMem.refl _).cons | exact (SubMem.refl _).cons.cons | exact (SubMem.refl _).cons.cons.cons | exact (SubMem.refl _).cons.cons.cons.cons)) rfl rfl rfl ?_
    first | refine d_pure0 rfl rfl rfl (pure_move rfl) ?_ | refine d_pass rfl rfl rfl (fun h => by cases h) rfl rfl rfl ?_
    first | refine d_as0 rfl rfl rfl (pure_str_eql rfl rfl) (show _ = Value.bool true from by rw [beq_self_eq_true]) ?_ | refine d_pass rfl rfl rfl (fun h => by cases h) rfl rfl rfl ?_
    first | refine d_pure0 rfl rfl rfl (pure_pick_yes rfl rfl) ?_ | refine d_pure0 rfl rfl rfl (pure_pick_no rfl rfl) ?_ | refine d_pure0 rfl rfl rfl (pure_pick_bool rfl rfl rfl) ?_
    refine d_pure0 rfl rfl rfl (pure_move rfl) ?_
    first | refine d_pure0 rfl rfl rfl (pure_move rfl) ?_ | refine d_pass rfl rfl rfl (fun h => by cases h) rfl rfl rfl ?_
    first | refine d_pure1 rfl rfl rfl (pure_bytes_string (j := 1) rfl rfl rfl rfl rfl rfl rfl rfl hs1 rfl) (by first | exact SubMem.refl _ | exact (SubMem.refl _).cons | exact (SubMem.refl _).cons.cons | exact (SubMem.refl _).cons.cons.cons | exact (SubMem.refl _).cons.cons.cons.cons) ?_ | refine d_pass rfl rfl rfl (fun _ => (by first | exact SubMem.refl _ | exact (SubMem.refl _).cons | exact (SubMem.refl _).cons.cons | exact (SubMem.refl _).cons.cons.cons | exact (SubMem.refl _).cons.cons.cons.cons)) rfl rfl rfl ?_
    first | refine d_pure0 rfl rfl rfl (pure_move rfl) ?_ | refine d_pass rfl rfl rfl (fun h => by cases h) rfl rfl rfl ?_
    first | refine d_pure0 rfl rfl rfl (pure_move rfl) ?_ | refine d_pass rfl rfl rfl (fun h => by cases h) rfl rfl rfl ?_
    refine d_append2 1 rfl rfl rfl rfl hs3 rfl rfl rfl rfl rfl elemU8 rfl (by decide) rfl rfl hs4.len (src_own (j := 0) hs4 rfl) (row_one _) (by omega) (by omega) rfl (fun e' => (by first | exact SubMem.refl _ | exact (SubMem.refl _).cons | exact (SubMem.refl _).cons.cons | exact (SubMem.refl _).cons.cons.cons | exact (SubMem.refl _).cons.cons.cons.cons)) (fun base5 cap5 e5 hs5 => ?_)
    rw [row_append, outF_parts key A bs c k h16] at hs5
    first | refine d_only_pure rfl rfl rfl (pure_bytes_string (j := 1) rfl rfl rfl rfl rfl rfl rfl rfl hs5 rfl) (fun _ => (by first | exact SubMem.refl _ | exact (SubMem.refl _).cons | exact (SubMem.refl _).cons.cons | exact (SubMem.refl _).cons.cons.cons | exact (SubMem.refl _).cons.cons.cons.cons)) rfl ?_ | refine d_pass rfl rfl rfl (fun h => by cases h) rfl rfl rfl ?_
    first | refine d_as0 rfl rfl rfl (pure_str_eql rfl rfl) (show _ = Value.bool true from by rw [beq_self_eq_true]) ?_ | refine d_pass rfl rfl rfl (fun h => by cases h) rfl rfl rfl ?_
    first | refine d_pure0 rfl rfl rfl (pure_pick_yes rfl rfl) ?_ | refine d_pure0 rfl rfl rfl (pure_pick_no rfl rfl) ?_ | refine d_pure0 rfl rfl rfl (pure_pick_bool rfl rfl rfl) ?_
    refine d_pure0 rfl rfl rfl (pure_move rfl) ?_
    first | refine d_pure0 rfl rfl rfl (pure_move rfl) ?_ | refine d_pass rfl rfl rfl (fun h => by cases h) rfl rfl rfl ?_
    first | refine d_pure0 rfl rfl rfl (pure_len_slice rfl rfl rfl) ?_ | refine d_pass rfl rfl rfl (fun h => by cases h) rfl rfl rfl ?_
    first | refine d_pure0 rfl rfl rfl (pure_move rfl) ?_ | refine d_pass rfl rfl rfl (fun h => by cases h) rfl rfl rfl ?_
    first | refine d_pure0 rfl rfl rfl (pure_len_slice rfl rfl rfl) ?_ | refine d_pass rfl rfl rfl (fun h => by cases h) rfl rfl rfl ?_
    first | refine d_as0 rfl rfl rfl (pure_eql rfl rfl) (show _ = Value.bool true from by rw [hl1, beq_self_eq_true]) ?_ | refine d_pass rfl rfl rfl (fun h => by cases h) rfl rfl rfl ?_
    first | refine d_pure0 rfl rfl rfl (pure_pick_yes rfl rfl) ?_ | refine d_pure0 rfl rfl rfl (pure_pick_no rfl rfl) ?_ | refine d_pure0 rfl rfl rfl (pure_pick_bool rfl rfl rfl) ?_
    refine d_pure0 rfl rfl rfl (pure_assign rfl) ?_
    refine d_nil ?_
    exact c_ret ⟨_, res_tmp Try.results5 rfl, rfl⟩
end Go.Proofs.Ytgpjbfedbncniaa
