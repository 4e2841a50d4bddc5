/- The statement AesBlocks, walked. -/
import Derived.Test.YtgpjbfedbncniaaA15
namespace Go.Proofs.Ytgpjbfedbncniaa
open Go.RowKit Go.Vc
set_option linter.unusedVariables false

theorem zeros_at (n i : Nat) : (zeros n).getD i 0 = 0 := by
  unfold zeros
  rw [List.getD_eq_getElem?_getD, List.getElem?_replicate]
  split <;> rfl
theorem strB_len (key A : List Int) (c0 : Int) (q : Nat) (hA : A.length = 8) : (strB key A c0 q).length = 16 := blkF_len _ _ _ (xbL_len A _ hA 8)
theorem outF_zeros (key A : List Int) (c : Int) (k : Nat) (hA : A.length = 8) (hAb : Bytes A) (hk : k < 2) : ((outF key A (zeros 32) c).drop (16 * k)).take 16 = strB key A (IntKind.u64.wrap c) k := by
  have hl := strB_len key A (IntKind.u64.wrap c) k hA
  apply List.ext_getElem?
  intro i
  rw [List.getElem?_take]
  by_cases hi : i < 16
  · rw [if_pos hi, List.getElem?_drop, outF_get, if_pos (by rw [zeros_len]; omega), List.getElem?_eq_getElem (by omega)]
    unfold outAt
    rw [zeros_at, strAt_is _ _ _ _ _ hi]
    have hb := (strB_bytes key A (IntKind.u64.wrap c) k hAb).at i
    rw [u8_xor 0 _ (by decide) (by decide) hb.1 hb.2]
    have e : (strB key A (IntKind.u64.wrap c) k).getD i 0 = (strB key A (IntKind.u64.wrap c) k)[i]'(by omega) := by
      rw [List.getD_eq_getElem?_getD, List.getElem?_eq_getElem (by omega)]; rfl
    rw [e] at hb ⊢
    congr 1
    simp
    omega
  · rw [if_neg hi, List.getElem?_eq_none (by omega)]

set_option maxHeartbeats 4000000 in
theorem aesblocks_any (key A a b : List Int) (c : Int) (w : World) (hk : key.length = 16) (hkb : Bytes key) (hA : A.length = 8) (hAb : Bytes A) (hc : 0 ≤ c ∧ c < 4294967296)
    (hla : a.length = 16) (hba : Bytes a) (hlb : b.length = 16) (hbb : Bytes b) :
    Gives tb 6 [.agg (row key).toArray, .agg (row A).toArray, .int .u32 c, .agg (row a).toArray, .agg (row b).toArray] w (.bool true) := by
  refine gives_of (fn := Try.f6) Try.func6 rfl Try.ntmps6 rfl ?_
  have hcw : IntKind.i64.wrap c = c := wrap_i64 (by omega) (by omega)
  have hnc : ¬ c < 0 := by omega
  have hXa := blkF_len boxT (expF boxT key) a hla
  have hXb := blkF_len boxT (expF boxT key) b hlb
  have hinj := blkF_inj (expF boxT key) a b (expF_bytes boxT key hkb) hla hba hlb hbb
  have h9a := fun w => ablock_any key a w hk hkb hla hba
  have h9b := fun w => ablock_any key b w hk hkb hlb hbb
  have h9x : ∀ (k : Nat) w, Gives tb 9 [.agg (row key).toArray, .agg (row (rxL A (c + k) 8)).toArray] w (.agg (row (blkF boxT (expF boxT key) (rxL A (c + k) 8))).toArray) := fun k w => by
    have := ablock_any key (xbL A (c + k) 8) w hk hkb (xbL_len A _ hA 8) (xbL_bytes A _ hAb 8)
    rw [← xb_eq A _ hA] at this
    exact this
  have hstr : ∀ k : Nat, k < 2 → blkF boxT (expF boxT key) (rxL A (c + k) 8) = strB key A (IntKind.u64.wrap c) k := fun k hk2 => by
    unfold strB
    rw [ctr_is, xb_eq A _ hA]
    have : IntKind.u64.wrap (c + (k : Int)) = c + k := by rw [IntKind.wrap_u64]; omega
    rw [this]
  have hsl := fun k => strB_len key A (IntKind.u64.wrap c) k hA
  have hz := fun k => outF_zeros key A c k hA hAb
  have hRl := fun k : Nat => rxL_len A (c + k) 8
  generalize blkF boxT (expF boxT key) a = Xa at hXa hinj h9a
  generalize blkF boxT (expF boxT key) b = Xb at hXb hinj h9b
  repeat refine c_seq ?_
  refine c_region ?_
  refine step_box_agg rfl rfl (fun b5 => ?_)
  refine step_box_agg rfl rfl (fun b6 => ?_)
  refine step_box_agg rfl rfl (fun b8 => ?_)
  refine step_box_agg rfl rfl (fun b9 => ?_)
  refine step_pure rfl (pure_assign rfl) ?_
  refine step_nil ?_
  repeat refine c_seq ?_
  refine c_region ?_
  refine step_gives rfl fun8 rfl (fun w _ _ => awake_any w) ?_
  refine step_pure rfl (pure_assign rfl) ?_
  refine step_nil ?_
  repeat refine c_seq ?_
  refine d_region [3, 11, 17, 25, 37, 45, 49, 57, 65, 73, 81] follows (by kernel_rfl) ?_
  refine d_pure1 rfl rfl rfl (pure_load_agg (i := 3) rfl rfl rfl rfl rfl (by simp only [row_len, hk]; decide) (ints_whole _ _ 16 hk)) (by first | exact SubMem.refl _ | exact (SubMem.refl _).cons | exact (SubMem.refl _).cons.cons | exact (SubMem.refl _).cons.cons.cons | exact (SubMem.refl _).cons.cons.cons.cons) ?_
  refine d_pure1 rfl rfl rfl (pure_load_agg (i := 2) rfl rfl rfl rfl rfl (by simp only [row_len, hA]; decide) (ints_whole _ _ 8 hA)) (by first | exact SubMem.refl _ | exact (SubMem.refl _).cons | exact (SubMem.refl _).cons.cons | exact (SubMem.refl _).cons.cons.cons | exact (SubMem.refl _).cons.cons.cons.cons) ?_
  refine d_pure0 rfl rfl rfl (pure_move rfl) ?_
  refine d_as0 rfl rfl rfl (pure_conv rfl rfl rfl rfl) (show _ = Value.int .i64 c from by rw [hcw]) ?_
  refine d_make (l := 32) (cp := 32) rfl rfl rfl rfl rfl rfl rfl elemU8 (by decide) (by decide) (by decide) (by first | exact SubMem.refl _ | exact (SubMem.refl _).cons | exact (SubMem.refl _).cons.cons | exact (SubMem.refl _).cons.cons.cons | exact (SubMem.refl _).cons.cons.cons.cons) rfl (fun bz => ?_)
  rw [show 32 * u8T.size = 32 from rfl, rowOf_u8]
  refine d_makes rfl rfl rfl fun13 rfl (fun w hh hkp => stream13 key A (zeros 32) c _ w hk hkb hA hAb (slv_own (j := 0) rfl (sl_built u8T 5 bz (row (zeros 32)) 32 rfl) hh rfl) (by decide)) (by first | exact SubMem.refl _ | exact (SubMem.refl _).cons | exact (SubMem.refl _).cons.cons | exact (SubMem.refl _).cons.cons.cons | exact (SubMem.refl _).cons.cons.cons.cons) rfl ?_
  rintro v m' ⟨base1, len1, cap1, e1, rfl, rfl, hs1⟩
  rw [if_neg hnc] at hs1 ⊢
  have hl1 := slis_len hs1
  rw [outF_len, zeros_len] at hl1
  subst hl1
  generalize hS : outF key A (zeros 32) c = S at hs1 hz
  have hSl : S.length = 32 := by rw [← hS, outF_len, zeros_len]
  refine d_pure0 rfl rfl rfl (pure_move rfl) ?_
  refine d_pure0 rfl rfl rfl (pure_extract rfl rfl) ?_
  refine d_pure0 rfl rfl rfl (pure_extract rfl rfl) ?_
  refine d_pure0 rfl rfl rfl (pure_assign rfl) ?_
  refine d_pure0 rfl rfl rfl (pure_assign rfl) ?_
  refine d_nil ?_
  repeat refine c_seq ?_
  refine c_region ?_
  refine step_pure rfl (pure_assign rfl) ?_
  refine step_nil ?_
  repeat refine c_seq ?_
  refine c_block ?_
  refine c_loop (α := Nat) (fun k => [(2, .int .u32 c), (5, .pointer (some ⟨b5, 0, none⟩)), (6, .pointer (some ⟨b6, 0, none⟩)), (8, .pointer (some ⟨b8, 0, none⟩)), (9, .pointer (some ⟨b9, 0, none⟩)), (11, .bool true), (12, .slice base1 32 cap1), (13, .int .i64 0), (14, .int .i64 k)])
    (fun k => [e1, ⟨b9, row b, 22⟩, ⟨b8, row a, 22⟩, ⟨b6, row A, 28⟩, ⟨b5, row key, 22⟩]) (fun k => k ≤ 2) (fun k => 2 - k) 0 (by decide)
    (less_sub ⟨rfl, rfl, rfl, rfl, rfl, rfl, rfl, rfl, rfl, trivial⟩ (by repeat (first | exact List.Sublist.refl _ | apply List.Sublist.cons_cons | apply List.Sublist.cons))) ?_
  intro k hk2
  repeat refine c_seq ?_
  refine c_region ?_
  refine step_pure rfl (pure_move rfl) ?_
  refine step_pure rfl (pure_lss rfl rfl) ?_
  refine step_nil ?_
  refine c_cond rfl (fun h => ?_) (fun h => ?_)
  · have hlt : k < 2 := by have := of_decide_eq_true h; omega
    clear h
    refine c_skip ?_
    repeat refine c_seq ?_
    refine c_block ?_
    repeat refine c_seq ?_
    refine c_region ?_
    refine step_pure rfl (pure_move rfl) ?_
    refine step_as rfl (pure_conv rfl rfl rfl rfl) (show _ = Value.int .i64 c from by rw [hcw]) ?_
    refine step_pure rfl (pure_move rfl) ?_
    first | refine step_pure rfl (pure_add64 rfl rfl (by omega) (by omega)) ?_ | refine step_pure rfl (pure_add rfl rfl) ?_
    refine step_pure rfl (pure_assign rfl) ?_
    refine step_nil ?_
    repeat refine c_seq ?_
    refine c_region ?_
    refine step_as rfl (pure_build_arr rfl zero22 rfl rfl rfl rfl) (show _ = Value.agg (row (zeros 16)).toArray from rfl) ?_
    refine step_alloc rfl zero22 (fun b16 => ?_)
    refine step_store_agg 0 rfl rfl rfl (row_one _) rfl rfl rfl rfl (by simp only [row_len, zeros_len]; decide) (splice_all rfl) ?_
    refine step_nil ?_
    repeat refine c_seq ?_
    refine c_region ?_
    refine step_pure rfl (pure_assign rfl) ?_
    refine step_nil ?_
    repeat refine c_seq ?_
    refine c_block ?_
    refine c_loop (α := Nat) (fun i => [(2, .int .u32 c), (5, .pointer (some ⟨b5, 0, none⟩)), (6, .pointer (some ⟨b6, 0, none⟩)), (8, .pointer (some ⟨b8, 0, none⟩)), (9, .pointer (some ⟨b9, 0, none⟩)), (11, .bool true), (12, .slice base1 32 cap1), (13, .int .i64 0), (14, .int .i64 k),
        (15, .int .i64 (c + k)), (16, .pointer (some ⟨b16, 0, none⟩)), (17, .int .i64 i)])
      (fun i => [⟨b16, row (rxL A (c + k) i), 22⟩, e1, ⟨b9, row b, 22⟩, ⟨b8, row a, 22⟩, ⟨b6, row A, 28⟩, ⟨b5, row key, 22⟩]) (fun i => i ≤ 8) (fun i => 8 - i) 0 (by decide)
      (less_of ⟨rfl, rfl, rfl, rfl, rfl, rfl, rfl, rfl, rfl, rfl, rfl, rfl, trivial⟩ rfl) ?_
    intro i hi
    have hXl := rxL_len A (c + k) i
    repeat refine c_seq ?_
    refine c_region ?_
    refine step_pure rfl (pure_move rfl) ?_
    refine step_pure rfl (pure_lss rfl rfl) ?_
    refine step_nil ?_
    refine c_cond rfl (fun h => ?_) (fun h => ?_)
    · have hil : i < 8 := by have := of_decide_eq_true h; omega
      clear h
      refine c_skip ?_
      repeat refine c_seq ?_
      refine c_block ?_
      repeat refine c_seq ?_
      refine c_region ?_
      refine step_pure rfl (pure_move rfl) ?_
      refine step_pure rfl (pure_move rfl) ?_
      refine step_pure rfl (pure_ix (off' := i) rfl rfl rfl rfl rfl (by omega) (by omega) (by show 0 + (i : Int).toNat * 1 = _; omega)) ?_
      refine step_pure rfl (pure_load (i := 4) rfl rfl rfl rfl rfl (row_get _ _ (by omega))) ?_
      refine step_pure rfl (pure_ix (off' := i) rfl rfl rfl rfl rfl (by omega) (by omega) (by show 0 + (i : Int).toNat * 1 = _; omega)) ?_
      refine step_store 0 rfl rfl rfl rfl rfl rfl rfl rfl (by simp only [row_len]; omega) (row_set _ _ _) ?_
      refine step_nil ?_
      repeat refine c_seq ?_
      refine c_region ?_
      refine step_pure rfl (pure_move rfl) ?_
      first | refine step_pure rfl (pure_add64 rfl rfl (by omega) (by omega)) ?_ | refine step_pure rfl (pure_add rfl rfl) ?_
      refine step_pure rfl (pure_move rfl) ?_
      refine step_pure rfl (pure_move rfl) ?_
      first | refine step_pure rfl (pure_mul64 rfl rfl (by omega) (by omega)) ?_ | refine step_pure rfl (pure_mul rfl rfl) ?_
      first | refine step_pure rfl (pure_sub64 rfl rfl (by omega) (by omega)) ?_ | refine step_pure rfl (pure_sub rfl rfl) ?_
      refine step_pure rfl (pure_conv rfl rfl rfl rfl) ?_
      refine step_pure rfl (pure_shr rfl rfl (u64_nat _)) ?_
      refine step_pure rfl (pure_conv rfl rfl rfl rfl) ?_
      refine step_pure rfl (pure_ix (off' := 8 + i) rfl rfl rfl rfl rfl (by omega) (by omega) (by show 0 + (8 + (i : Int)).toNat * 1 = _; omega)) ?_
      refine step_store 0 rfl rfl rfl rfl rfl rfl rfl rfl (by simp only [ints_len, List.length_set]; omega) (row_set _ _ _) ?_
      refine step_nil ?_
      repeat refine c_seq ?_
      refine c_region ?_
      refine step_pure rfl (pure_move rfl) ?_
      first | refine step_pure rfl (pure_add64 rfl rfl (by omega) (by omega)) ?_ | refine step_pure rfl (pure_add rfl rfl) ?_
      refine step_pure rfl (pure_assign rfl) ?_
      refine step_nil ?_
      exact ⟨i + 1, hil, by omega, less_of ⟨rfl, rfl, rfl, rfl, rfl, rfl, rfl, rfl, rfl, rfl, rfl, rfl, trivial⟩ rfl⟩
    · have hi8 : i = 8 := by have := of_decide_eq_false h; omega
      clear h
      rw [hi8] at hXl ⊢
      clear hi8 hi
      refine c_exit ?_
      have hBl := hsl k
      have hzk := hz k hlt
      have h9k := h9x k
      rw [hstr k hlt] at h9k
      generalize strB key A (IntKind.u64.wrap c) k = Bk at hBl hzk h9k
      have hsub : ∀ (b18 : Nat) w, Has w [⟨b18, row Bk, 22⟩, ⟨b16, row (rxL A (c + k) 8), 22⟩, e1, ⟨b9, row b, 22⟩, ⟨b8, row a, 22⟩, ⟨b6, row A, 28⟩, ⟨b5, row key, 22⟩] → SlV w (subS base1 cap1 1 (16 * k) (16 * k + 16)) (row Bk) := fun b18 w hh => by
        have h1 := slv_sub (lo := 16 * k) (hi := 16 * k + 16) (slv_own (j := 2) rfl hs1 hh rfl) (by omega) (by omega)
        rw [ints_sub, show 16 * k + 16 - 16 * k = 16 by omega, hzk] at h1
        exact h1
      have hcp : 32 ≤ cap1 := hs1.le
      repeat refine c_seq ?_
      refine c_region ?_
      refine step_pure rfl (pure_load_agg (i := 5) rfl rfl rfl rfl rfl (by simp only [row_len, hk]; decide) (ints_whole _ _ 16 hk)) ?_
      refine step_pure rfl (pure_load_agg (i := 0) rfl rfl rfl rfl rfl (by simp only [row_len, hXl]; decide) (ints_whole _ _ 16 hXl)) ?_
      refine step_gives rfl fun9 rfl (fun w _ _ => h9k w) ?_
      refine step_alloc rfl zero22 (fun b18 => ?_)
      refine step_store_agg 0 rfl rfl rfl (row_one _) rfl (by rw [row_len]; exact hBl) rfl rfl (by simp only [row_len, zeros_len]; decide) (splice_all (by simp only [row_len, zeros_len, hBl])) ?_
      refine step_nil ?_
      repeat refine c_seq ?_
      refine d_region [1, 9, 17, 25, 33, 41, 49, 57, 65, 73, 81, 91, 97, 107, 113, 121] follows (by kernel_rfl) ?_
      refine d_pure0 rfl rfl rfl (pure_move rfl) ?_
      refine d_pure0 rfl rfl rfl (pure_len_slice rfl rfl rfl) ?_
      refine d_as0 rfl rfl rfl (pure_neq rfl rfl) (show _ = Value.bool false from rfl) ?_
      refine d_pure0 rfl rfl rfl (pure_move rfl) ?_
      first | refine d_pure0 rfl rfl rfl (pure_move rfl) ?_ | refine d_pass rfl rfl rfl (fun h => by cases h) rfl rfl rfl ?_
      first | refine d_pure0 rfl rfl rfl (pure_move rfl) ?_ | refine d_pass rfl rfl rfl (fun h => by cases h) rfl rfl rfl ?_
      first | refine d_pure0 rfl rfl rfl (pure_mul64 rfl rfl (by omega) (by omega)) ?_ | refine d_pure0 rfl rfl rfl (pure_mul rfl rfl) ?_ | refine d_pass rfl rfl rfl (fun h => by cases h) rfl rfl rfl ?_
      first | refine d_pure0 rfl rfl rfl (pure_move rfl) ?_ | refine d_pass rfl rfl rfl (fun h => by cases h) rfl rfl rfl ?_
      first | refine d_pure0 rfl rfl rfl (pure_mul64 rfl rfl (by omega) (by omega)) ?_ | refine d_pure0 rfl rfl rfl (pure_mul rfl rfl) ?_ | refine d_pass rfl rfl rfl (fun h => by cases h) rfl rfl rfl ?_
      first | refine d_pure0 rfl rfl rfl (pure_add64 rfl rfl (by omega) (by omega)) ?_ | refine d_pure0 rfl rfl rfl (pure_add rfl rfl) ?_ | refine d_pass rfl rfl rfl (fun h => by cases h) rfl rfl rfl ?_
      first | refine d_as0 rfl rfl rfl (pure_sub_both rfl rfl rfl rfl rfl rfl (by omega) (by omega) (by omega)) (show subS base1 cap1 1 (16 * (k : Int)).toNat (16 * (k : Int) + 16).toNat = subS base1 cap1 1 (16 * k) (16 * k + 16) from by congr 1 <;> omega) ?_ | refine d_pass rfl rfl rfl (fun h => by cases h) rfl rfl rfl ?_
      first | refine d_pure1 rfl rfl rfl (pure_sl_string rfl rfl rfl rfl rfl rfl rfl (fun w hh _ => hsub b18 w hh)) (by first | exact SubMem.refl _ | exact (SubMem.refl _).cons | exact (SubMem.refl _).cons.cons | exact (SubMem.refl _).cons.cons.cons | exact (SubMem.refl _).cons.cons.cons.cons) ?_ | refine d_pass rfl rfl rfl (fun _ => (by first | exact SubMem.refl _ | exact (SubMem.refl _).cons | exact (SubMem.refl _).cons.cons | exact (SubMem.refl _).cons.cons.cons | exact (SubMem.refl _).cons.cons.cons.cons)) rfl rfl rfl ?_
      first | refine d_pure0 rfl rfl rfl (pure_slice_all rfl rfl rfl rfl) ?_ | refine d_pass rfl rfl rfl (fun h => by cases h) rfl rfl rfl ?_
      first | refine d_pure1 rfl rfl rfl (pure_sl_string rfl rfl rfl rfl rfl rfl rfl (fun w hh _ => slv_arr (j := 0) hh rfl hBl)) (by first | exact SubMem.refl _ | exact (SubMem.refl _).cons | exact (SubMem.refl _).cons.cons | exact (SubMem.refl _).cons.cons.cons | exact (SubMem.refl _).cons.cons.cons.cons) ?_ | refine d_pass rfl rfl rfl (fun _ => (by first | exact SubMem.refl _ | exact (SubMem.refl _).cons | exact (SubMem.refl _).cons.cons | exact (SubMem.refl _).cons.cons.cons | exact (SubMem.refl _).cons.cons.cons.cons)) rfl rfl rfl ?_
      first | refine d_as0 rfl rfl rfl (pure_str_neq rfl rfl) (show _ = Value.bool false from by rw [beq_self_eq_true]; rfl) ?_ | refine d_pass rfl rfl rfl (fun h => by cases h) rfl rfl rfl ?_
      first | refine d_pure0 rfl rfl rfl (pure_pick_yes rfl rfl) ?_ | refine d_pure0 rfl rfl rfl (pure_pick_no rfl rfl) ?_ | refine d_pure0 rfl rfl rfl (pure_pick_bool rfl rfl rfl) ?_
      refine d_nil ?_
      refine c_cond_no rfl rfl (c_skip ?_)
      repeat refine c_seq ?_
      refine c_region ?_
      refine step_pure rfl (pure_move rfl) ?_
      first | refine step_pure rfl (pure_add64 rfl rfl (by omega) (by omega)) ?_ | refine step_pure rfl (pure_add rfl rfl) ?_
      refine step_pure rfl (pure_assign rfl) ?_
      refine step_nil ?_
      exact ⟨k + 1, hlt, by omega, less_sub ⟨rfl, rfl, rfl, rfl, rfl, rfl, rfl, rfl, rfl, trivial⟩ (by repeat (first | exact List.Sublist.refl _ | apply List.Sublist.cons_cons | apply List.Sublist.cons))⟩
  · have hk2' : k = 2 := by have := of_decide_eq_false h; omega
    clear h
    refine c_exit ?_
    repeat refine c_seq ?_
    refine d_region [1, 9, 17, 25, 33, 41, 51, 59, 67, 75, 83, 91, 97, 107, 115, 121, 129, 137, 145] follows (by kernel_rfl) ?_
    refine d_pure0 rfl rfl rfl (pure_move rfl) ?_
    refine d_pure0 rfl rfl rfl (pure_move rfl) ?_
    first | refine d_pure0 rfl rfl rfl (pure_move rfl) ?_ | refine d_pass rfl rfl rfl (fun h => by cases h) rfl rfl rfl ?_
    first | refine d_as0 rfl rfl rfl (pure_eql rfl rfl) (show _ = Value.bool true from rfl) ?_ | refine d_pass rfl rfl rfl (fun h => by cases h) rfl rfl rfl ?_
    first | refine d_pure0 rfl rfl rfl (pure_pick_yes rfl rfl) ?_ | refine d_pure0 rfl rfl rfl (pure_pick_no rfl rfl) ?_ | refine d_pure0 rfl rfl rfl (pure_pick_bool rfl rfl rfl) ?_
    refine d_pure0 rfl rfl rfl (pure_move rfl) ?_
    first | refine d_pure1 rfl rfl rfl (pure_load_agg (i := 4) rfl rfl rfl rfl rfl (by simp only [row_len, hk]; decide) (ints_whole _ _ 16 hk)) (by first | exact SubMem.refl _ | exact (SubMem.refl _).cons | exact (SubMem.refl _).cons.cons | exact (SubMem.refl _).cons.cons.cons | exact (SubMem.refl _).cons.cons.cons.cons) ?_ | refine d_pass rfl rfl rfl (fun _ => (by first | exact SubMem.refl _ | exact (SubMem.refl _).cons | exact (SubMem.refl _).cons.cons | exact (SubMem.refl _).cons.cons.cons | exact (SubMem.refl _).cons.cons.cons.cons)) rfl rfl rfl ?_
    first | refine d_pure1 rfl rfl rfl (pure_load_agg (i := 2) rfl rfl rfl rfl rfl (by simp only [row_len, hla]; decide) (ints_whole _ _ 16 hla)) (by first | exact SubMem.refl _ | exact (SubMem.refl _).cons | exact (SubMem.refl _).cons.cons | exact (SubMem.refl _).cons.cons.cons | exact (SubMem.refl _).cons.cons.cons.cons) ?_ | refine d_pass rfl rfl rfl (fun _ => (by first | exact SubMem.refl _ | exact (SubMem.refl _).cons | exact (SubMem.refl _).cons.cons | exact (SubMem.refl _).cons.cons.cons | exact (SubMem.refl _).cons.cons.cons.cons)) rfl rfl rfl ?_
    first | refine d_gives rfl rfl rfl fun9 rfl (fun w _ _ => h9a w) (by first | exact SubMem.refl _ | exact (SubMem.refl _).cons | exact (SubMem.refl _).cons.cons | exact (SubMem.refl _).cons.cons.cons | exact (SubMem.refl _).cons.cons.cons.cons) ?_ | refine d_pass rfl rfl rfl (fun _ => (by first | exact SubMem.refl _ | exact (SubMem.refl _).cons | exact (SubMem.refl _).cons.cons | exact (SubMem.refl _).cons.cons.cons | exact (SubMem.refl _).cons.cons.cons.cons)) rfl rfl rfl ?_
    first | refine d_pure1 rfl rfl rfl (pure_load_agg (i := 4) rfl rfl rfl rfl rfl (by simp only [row_len, hk]; decide) (ints_whole _ _ 16 hk)) (by first | exact SubMem.refl _ | exact (SubMem.refl _).cons | exact (SubMem.refl _).cons.cons | exact (SubMem.refl _).cons.cons.cons | exact (SubMem.refl _).cons.cons.cons.cons) ?_ | refine d_pass rfl rfl rfl (fun _ => (by first | exact SubMem.refl _ | exact (SubMem.refl _).cons | exact (SubMem.refl _).cons.cons | exact (SubMem.refl _).cons.cons.cons | exact (SubMem.refl _).cons.cons.cons.cons)) rfl rfl rfl ?_
    first | refine d_pure1 rfl rfl rfl (pure_load_agg (i := 1) rfl rfl rfl rfl rfl (by simp only [row_len, hlb]; decide) (ints_whole _ _ 16 hlb)) (by first | exact SubMem.refl _ | exact (SubMem.refl _).cons | exact (SubMem.refl _).cons.cons | exact (SubMem.refl _).cons.cons.cons | exact (SubMem.refl _).cons.cons.cons.cons) ?_ | refine d_pass rfl rfl rfl (fun _ => (by first | exact SubMem.refl _ | exact (SubMem.refl _).cons | exact (SubMem.refl _).cons.cons | exact (SubMem.refl _).cons.cons.cons | exact (SubMem.refl _).cons.cons.cons.cons)) rfl rfl rfl ?_
    first | refine d_gives rfl rfl rfl fun9 rfl (fun w _ _ => h9b w) (by first | exact SubMem.refl _ | exact (SubMem.refl _).cons | exact (SubMem.refl _).cons.cons | exact (SubMem.refl _).cons.cons.cons | exact (SubMem.refl _).cons.cons.cons.cons) ?_ | refine d_pass rfl rfl rfl (fun _ => (by first | exact SubMem.refl _ | exact (SubMem.refl _).cons | exact (SubMem.refl _).cons.cons | exact (SubMem.refl _).cons.cons.cons | exact (SubMem.refl _).cons.cons.cons.cons)) rfl rfl rfl ?_
    first | refine d_pure0 rfl rfl rfl (pure_eql_arr rfl rfl guardKey rfl rfl rfl rfl rfl rfl hXa hXb) ?_ | refine d_pass rfl rfl rfl (fun h => by cases h) rfl rfl rfl ?_
    first | refine d_pure1 rfl rfl rfl (pure_load_agg (i := 2) rfl rfl rfl rfl rfl (by simp only [row_len, hla]; decide) (ints_whole _ _ 16 hla)) (by first | exact SubMem.refl _ | exact (SubMem.refl _).cons | exact (SubMem.refl _).cons.cons | exact (SubMem.refl _).cons.cons.cons | exact (SubMem.refl _).cons.cons.cons.cons) ?_ | refine d_pass rfl rfl rfl (fun _ => (by first | exact SubMem.refl _ | exact (SubMem.refl _).cons | exact (SubMem.refl _).cons.cons | exact (SubMem.refl _).cons.cons.cons | exact (SubMem.refl _).cons.cons.cons.cons)) rfl rfl rfl ?_
    first | refine d_pure1 rfl rfl rfl (pure_load_agg (i := 1) rfl rfl rfl rfl rfl (by simp only [row_len, hlb]; decide) (ints_whole _ _ 16 hlb)) (by first | exact SubMem.refl _ | exact (SubMem.refl _).cons | exact (SubMem.refl _).cons.cons | exact (SubMem.refl _).cons.cons.cons | exact (SubMem.refl _).cons.cons.cons.cons) ?_ | refine d_pass rfl rfl rfl (fun _ => (by first | exact SubMem.refl _ | exact (SubMem.refl _).cons | exact (SubMem.refl _).cons.cons | exact (SubMem.refl _).cons.cons.cons | exact (SubMem.refl _).cons.cons.cons.cons)) rfl rfl rfl ?_
    first | refine d_pure0 rfl rfl rfl (pure_eql_arr rfl rfl guardKey rfl rfl rfl rfl rfl rfl hla hlb) ?_ | refine d_pass rfl rfl rfl (fun h => by cases h) rfl rfl rfl ?_
    first | refine d_as0 rfl rfl rfl (pure_beql rfl rfl rfl rfl) (show _ = Value.bool true from by simp [hinj]) ?_ | refine d_pass rfl rfl rfl (fun h => by cases h) rfl rfl rfl ?_
    first | refine d_pure0 rfl rfl rfl (pure_pick_yes rfl rfl) ?_ | refine d_pure0 rfl rfl rfl (pure_pick_no rfl rfl) ?_ | refine d_pure0 rfl rfl rfl (pure_pick_bool rfl rfl rfl) ?_
    refine d_pure0 rfl rfl rfl (pure_assign rfl) ?_
    refine d_nil ?_
    exact c_ret ⟨_, res_tmp Try.results6 rfl, rfl⟩
end Go.Proofs.Ytgpjbfedbncniaa
