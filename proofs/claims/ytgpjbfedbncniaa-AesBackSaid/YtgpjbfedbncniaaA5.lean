import Derived.Test.YtgpjbfedbncniaaA4
namespace Go.Proofs.Ytgpjbfedbncniaa
open Go.RowKit Go.Vc
set_option linter.unusedVariables false

/-! the reference's keys and block -/
def chS (a b : List Int) : Nat → List Int
  | 0 => a
  | i + 1 => (chS a b i).set i (xr ((chS a b i).getD i 0) (b.getD i 0))
theorem chS_len (a b : List Int) (i : Nat) : (chS a b i).length = a.length := by
  induction i with
  | zero => rfl
  | succ i ih => exact (List.length_set ..).trans ih
def p18a : List Nat := [1, 9, 17, 27, 33, 41, 51, 57, 65, 76]
set_option maxHeartbeats 1000000 in
theorem changed_any (a b : List Int) (w : World) (ha : a.length = 16) (hb : b.length = 16) :
    Gives tb 18 [.agg (row a).toArray, .agg (row b).toArray] w (.agg (row (chS a b 16)).toArray) := by
  refine gives_of (fn := Try.f18) Try.func18 rfl Try.ntmps18 rfl ?_
  refine c_seq (c_region (step_box_agg rfl rfl (fun bA => step_box_agg rfl rfl (fun bB => step_alloc rfl zero22 (fun bR => ?_)))))
  repeat first
    | refine step_pure rfl (pure_move rfl) ?_
    | refine step_pure rfl (pure_add64 rfl rfl (by omega) (by omega)) ?_
    | refine step_pure rfl (pure_sub64 rfl rfl (by omega) (by omega)) ?_
    | refine step_pure rfl (pure_mul64 rfl rfl (by omega) (by omega)) ?_
    | refine step_pure rfl (pure_rem_pos rfl rfl (by omega) (by decide)) ?_
    | refine step_pure rfl (pure_lss rfl rfl) ?_
    | refine step_pure rfl (pure_leq rfl rfl) ?_
    | refine step_pure rfl (pure_gtr rfl rfl) ?_
    | refine step_pure rfl (pure_geq rfl rfl) ?_
    | refine step_pure rfl (pure_eql rfl rfl) ?_
    | refine step_pure rfl (pure_neq rfl rfl) ?_
    | refine step_pure rfl (pure_xor rfl rfl) ?_
    | refine step_pure rfl (pure_and rfl rfl) ?_
    | refine step_pure rfl (pure_or rfl rfl) ?_
    | refine step_pure rfl (pure_shl rfl rfl (by decide)) ?_
    | refine step_pure rfl (pure_shr rfl rfl (by decide)) ?_
    | refine step_pure rfl (pure_conv rfl rfl rfl rfl) ?_
    | refine step_pure rfl (pure_nilCheck rfl) ?_
    | refine step_pure rfl (pure_not rfl) ?_
    | refine step_pure rfl (pure_extract rfl rfl) ?_
    | refine step_pure rfl (pure_max rfl rfl) ?_
    | refine step_pure rfl (pure_min rfl rfl) ?_
    | refine step_pure rfl (pure_ix rfl rfl rfl rfl rfl (by decide) (by decide) rfl) ?_
    | refine step_pure rfl (pure_assign rfl) ?_
    | refine step_nil ?_
    | refine c_seq ?_
    | refine c_region ?_
    | refine c_block ?_
  refine c_loop (α := Nat) (fun i => [(2, .pointer (some ⟨bA, 0, none⟩)), (3, .pointer (some ⟨bB, 0, none⟩)), (4, .pointer (some ⟨bR, 0, none⟩)), (5, .int .i64 i)])
    (fun i => [⟨bR, row (zeros 16), 22⟩, ⟨bB, row b, 22⟩, ⟨bA, row (chS a b i), 22⟩]) (fun i => i ≤ 16) (fun i => 16 - i) 0 (by decide) (less_regs ⟨rfl, rfl, rfl, rfl, trivial⟩) ?_
  intro i hi
  have hli := (chS_len a b i).trans ha
  repeat first
    | refine step_pure rfl (pure_move rfl) ?_
    | refine step_pure rfl (pure_add64 rfl rfl (by omega) (by omega)) ?_
    | refine step_pure rfl (pure_sub64 rfl rfl (by omega) (by omega)) ?_
    | refine step_pure rfl (pure_mul64 rfl rfl (by omega) (by omega)) ?_
    | refine step_pure rfl (pure_rem_pos rfl rfl (by omega) (by decide)) ?_
    | refine step_pure rfl (pure_lss rfl rfl) ?_
    | refine step_pure rfl (pure_leq rfl rfl) ?_
    | refine step_pure rfl (pure_gtr rfl rfl) ?_
    | refine step_pure rfl (pure_geq rfl rfl) ?_
    | refine step_pure rfl (pure_eql rfl rfl) ?_
    | refine step_pure rfl (pure_neq rfl rfl) ?_
    | refine step_pure rfl (pure_xor rfl rfl) ?_
    | refine step_pure rfl (pure_and rfl rfl) ?_
    | refine step_pure rfl (pure_or rfl rfl) ?_
    | refine step_pure rfl (pure_shl rfl rfl (by decide)) ?_
    | refine step_pure rfl (pure_shr rfl rfl (by decide)) ?_
    | refine step_pure rfl (pure_conv rfl rfl rfl rfl) ?_
    | refine step_pure rfl (pure_nilCheck rfl) ?_
    | refine step_pure rfl (pure_not rfl) ?_
    | refine step_pure rfl (pure_extract rfl rfl) ?_
    | refine step_pure rfl (pure_max rfl rfl) ?_
    | refine step_pure rfl (pure_min rfl rfl) ?_
    | refine step_pure rfl (pure_ix rfl rfl rfl rfl rfl (by decide) (by decide) rfl) ?_
    | refine step_pure rfl (pure_assign rfl) ?_
    | refine step_nil ?_
    | refine c_seq ?_
    | refine c_region ?_
    | refine c_block ?_
  refine c_cond rfl (fun h => ?_) (fun h => ?_)
  · have hlt : i < 16 := by have := of_decide_eq_true h; omega
    clear h
    refine c_skip ?_
    repeat first
      | refine step_pure rfl (pure_move rfl) ?_
      | refine step_pure rfl (pure_add64 rfl rfl (by omega) (by omega)) ?_
      | refine step_pure rfl (pure_sub64 rfl rfl (by omega) (by omega)) ?_
      | refine step_pure rfl (pure_mul64 rfl rfl (by omega) (by omega)) ?_
      | refine step_pure rfl (pure_rem_pos rfl rfl (by omega) (by decide)) ?_
      | refine step_pure rfl (pure_lss rfl rfl) ?_
      | refine step_pure rfl (pure_leq rfl rfl) ?_
      | refine step_pure rfl (pure_gtr rfl rfl) ?_
      | refine step_pure rfl (pure_geq rfl rfl) ?_
      | refine step_pure rfl (pure_eql rfl rfl) ?_
      | refine step_pure rfl (pure_neq rfl rfl) ?_
      | refine step_pure rfl (pure_xor rfl rfl) ?_
      | refine step_pure rfl (pure_and rfl rfl) ?_
      | refine step_pure rfl (pure_or rfl rfl) ?_
      | refine step_pure rfl (pure_shl rfl rfl (by decide)) ?_
      | refine step_pure rfl (pure_shr rfl rfl (by decide)) ?_
      | refine step_pure rfl (pure_conv rfl rfl rfl rfl) ?_
      | refine step_pure rfl (pure_nilCheck rfl) ?_
      | refine step_pure rfl (pure_not rfl) ?_
      | refine step_pure rfl (pure_extract rfl rfl) ?_
      | refine step_pure rfl (pure_max rfl rfl) ?_
      | refine step_pure rfl (pure_min rfl rfl) ?_
      | refine step_pure rfl (pure_ix rfl rfl rfl rfl rfl (by decide) (by decide) rfl) ?_
      | refine step_pure rfl (pure_assign rfl) ?_
      | refine step_nil ?_
      | refine c_seq ?_
      | refine c_region ?_
      | refine c_block ?_
    refine d_region p18a follows (by kernel_rfl) ?_
    repeat first
      | refine d_pure0 rfl rfl rfl (pure_ix (off' := i) rfl rfl rfl rfl rfl (by omega) (by omega) (by show 0 + (i : Int).toNat * 1 = _; omega)) ?_
      | refine d_pure1 rfl rfl rfl (pure_load (i := 2) rfl rfl rfl rfl rfl (row_get _ _ (by omega))) (SubMem.refl _) ?_
      | refine d_pure1 rfl rfl rfl (pure_load (i := 1) rfl rfl rfl rfl rfl (row_get _ _ (by omega))) (SubMem.refl _) ?_
      | refine d_store 2 rfl rfl rfl rfl rfl rfl rfl rfl rfl rfl (by rw [row_len]; omega) (row_set _ _ _) rfl rfl ?_
      | refine d_pure0 rfl rfl rfl (pure_move rfl) ?_
      | refine d_pure0 rfl rfl rfl (pure_add64 rfl rfl (by omega) (by omega)) ?_
      | refine d_pure0 rfl rfl rfl (pure_sub64 rfl rfl (by omega) (by omega)) ?_
      | refine d_pure0 rfl rfl rfl (pure_mul64 rfl rfl (by omega) (by omega)) ?_
      | refine d_pure0 rfl rfl rfl (pure_rem_pos rfl rfl (by omega) (by decide)) ?_
      | refine d_pure0 rfl rfl rfl (pure_lss rfl rfl) ?_
      | refine d_pure0 rfl rfl rfl (pure_leq rfl rfl) ?_
      | refine d_pure0 rfl rfl rfl (pure_gtr rfl rfl) ?_
      | refine d_pure0 rfl rfl rfl (pure_geq rfl rfl) ?_
      | refine d_pure0 rfl rfl rfl (pure_eql rfl rfl) ?_
      | refine d_pure0 rfl rfl rfl (pure_neq rfl rfl) ?_
      | refine d_pure0 rfl rfl rfl (pure_xor rfl rfl) ?_
      | refine d_pure0 rfl rfl rfl (pure_and rfl rfl) ?_
      | refine d_pure0 rfl rfl rfl (pure_or rfl rfl) ?_
      | refine d_pure0 rfl rfl rfl (pure_shl rfl rfl (by decide)) ?_
      | refine d_pure0 rfl rfl rfl (pure_shr rfl rfl (by decide)) ?_
      | refine d_pure0 rfl rfl rfl (pure_conv rfl rfl rfl rfl) ?_
      | refine d_pure0 rfl rfl rfl (pure_nilCheck rfl) ?_
      | refine d_pure0 rfl rfl rfl (pure_not rfl) ?_
      | refine d_pure0 rfl rfl rfl (pure_extract rfl rfl) ?_
      | refine d_pure0 rfl rfl rfl (pure_max rfl rfl) ?_
      | refine d_pure0 rfl rfl rfl (pure_min rfl rfl) ?_
      | refine d_pure0 rfl rfl rfl (pure_ix rfl rfl rfl rfl rfl (by decide) (by decide) rfl) ?_
      | refine d_pure0 rfl rfl rfl (pure_assign rfl) ?_
      | refine d_nil ?_
    repeat first
      | refine step_pure rfl (pure_move rfl) ?_
      | refine step_pure rfl (pure_add64 rfl rfl (by omega) (by omega)) ?_
      | refine step_pure rfl (pure_sub64 rfl rfl (by omega) (by omega)) ?_
      | refine step_pure rfl (pure_mul64 rfl rfl (by omega) (by omega)) ?_
      | refine step_pure rfl (pure_rem_pos rfl rfl (by omega) (by decide)) ?_
      | refine step_pure rfl (pure_lss rfl rfl) ?_
      | refine step_pure rfl (pure_leq rfl rfl) ?_
      | refine step_pure rfl (pure_gtr rfl rfl) ?_
      | refine step_pure rfl (pure_geq rfl rfl) ?_
      | refine step_pure rfl (pure_eql rfl rfl) ?_
      | refine step_pure rfl (pure_neq rfl rfl) ?_
      | refine step_pure rfl (pure_xor rfl rfl) ?_
      | refine step_pure rfl (pure_and rfl rfl) ?_
      | refine step_pure rfl (pure_or rfl rfl) ?_
      | refine step_pure rfl (pure_shl rfl rfl (by decide)) ?_
      | refine step_pure rfl (pure_shr rfl rfl (by decide)) ?_
      | refine step_pure rfl (pure_conv rfl rfl rfl rfl) ?_
      | refine step_pure rfl (pure_nilCheck rfl) ?_
      | refine step_pure rfl (pure_not rfl) ?_
      | refine step_pure rfl (pure_extract rfl rfl) ?_
      | refine step_pure rfl (pure_max rfl rfl) ?_
      | refine step_pure rfl (pure_min rfl rfl) ?_
      | refine step_pure rfl (pure_ix rfl rfl rfl rfl rfl (by decide) (by decide) rfl) ?_
      | refine step_pure rfl (pure_assign rfl) ?_
      | refine step_nil ?_
      | refine c_seq ?_
      | refine c_region ?_
      | refine c_block ?_
    exact ⟨i + 1, hlt, by omega, less_of ⟨rfl, rfl, rfl, rfl, trivial⟩ rfl⟩
  · have hi16 : i = 16 := by have := of_decide_eq_false h; omega
    have hT : row (chS a b 16) = row (chS a b i) := by rw [hi16]
    rw [hT]
    have hl' : (row (chS a b i)).length = 16 := by rw [row_len, hli]
    have hone : ∀ v ∈ row (chS a b i), v.oneCell' = true := row_one _
    generalize row (chS a b i) = T at hl' hone ⊢
    clear h hT hi16 hli hi
    refine c_exit ?_
    repeat first
      | refine step_pure rfl (pure_load_agg (i := 2) rfl rfl rfl rfl rfl (by rw [hl']; decide) (show _ = T from by rw [List.drop_zero, List.take_of_length_le (by rw [hl']; decide)])) ?_
      | refine step_pure rfl (pure_move rfl) ?_
      | refine step_pure rfl (pure_add64 rfl rfl (by omega) (by omega)) ?_
      | refine step_pure rfl (pure_sub64 rfl rfl (by omega) (by omega)) ?_
      | refine step_pure rfl (pure_mul64 rfl rfl (by omega) (by omega)) ?_
      | refine step_pure rfl (pure_rem_pos rfl rfl (by omega) (by decide)) ?_
      | refine step_pure rfl (pure_lss rfl rfl) ?_
      | refine step_pure rfl (pure_leq rfl rfl) ?_
      | refine step_pure rfl (pure_gtr rfl rfl) ?_
      | refine step_pure rfl (pure_geq rfl rfl) ?_
      | refine step_pure rfl (pure_eql rfl rfl) ?_
      | refine step_pure rfl (pure_neq rfl rfl) ?_
      | refine step_pure rfl (pure_xor rfl rfl) ?_
      | refine step_pure rfl (pure_and rfl rfl) ?_
      | refine step_pure rfl (pure_or rfl rfl) ?_
      | refine step_pure rfl (pure_shl rfl rfl (by decide)) ?_
      | refine step_pure rfl (pure_shr rfl rfl (by decide)) ?_
      | refine step_pure rfl (pure_conv rfl rfl rfl rfl) ?_
      | refine step_pure rfl (pure_nilCheck rfl) ?_
      | refine step_pure rfl (pure_not rfl) ?_
      | refine step_pure rfl (pure_extract rfl rfl) ?_
      | refine step_pure rfl (pure_max rfl rfl) ?_
      | refine step_pure rfl (pure_min rfl rfl) ?_
      | refine step_pure rfl (pure_ix rfl rfl rfl rfl rfl (by decide) (by decide) rfl) ?_
      | refine step_pure rfl (pure_assign rfl) ?_
      | refine step_nil ?_
      | refine c_seq ?_
      | refine c_region ?_
      | refine c_block ?_
    refine step_store_agg 0 rfl rfl rfl hone rfl hl' rfl rfl (by simp only [row_len, zeros_len]; decide) (splice_all (by rw [hl', row_len, zeros_len])) ?_
    refine step_nil (c_ret ⟨_, res_cell_agg (i := 0) Try.results18 rfl rfl rfl rfl rfl (by show 0 + 16 ≤ T.length; rw [hl']; decide) rfl, ?_⟩)
    show Value.agg ((T.drop 0).take 16).toArray = _
    rw [List.drop_zero, List.take_of_length_le (by rw [hl']; decide)]

def rkA1 (W O : List Int) (k c : Nat) : Int := if c < 4 then rbox (W.getD (12 + (c + 1) % 4) 0) else O.getD (16 * (k + 1) + (c - 4)) 0
def rkA2 (W O : List Int) (k c : Nat) (round : Int) : Int := if c = 0 then xr (rkA1 W O k c) round else rkA1 W O k c
def rkC (W O : List Int) (k : Nat) (round : Int) : Nat → List Int
  | 0 => O
  | c + 1 => (rkC W O k round c).set (16 * (k + 1) + c) (xr (W.getD c 0) (rkA2 W (rkC W O k round c) k c round))
def rkK (key : List Int) : Nat → List Int × Int
  | 0 => (key ++ zeros 160, 1)
  | k + 1 => (rkC (((rkK key k).1.drop (16 * k)).take 16) (rkK key k).1 k (rkK key k).2 16, tms (rkK key k).2 2)
theorem rkC_len (W O : List Int) (k : Nat) (round : Int) (c : Nat) : (rkC W O k round c).length = O.length := by
  induction c with
  | zero => rfl
  | succ c ih => exact (List.length_set ..).trans ih
theorem rkK_succ (key : List Int) (k : Nat) : rkK key (k + 1) = (rkC (((rkK key k).1.drop (16 * k)).take 16) (rkK key k).1 k (rkK key k).2 16, tms (rkK key k).2 2) := rfl
theorem rkK_len (key : List Int) (h : key.length = 16) (k : Nat) : (rkK key k).1.length = 176 := by
  induction k with
  | zero => show (key ++ zeros 160).length = 176; rw [List.length_append, h, zeros_len]
  | succ k ih => rw [rkK_succ, rkC_len]; exact ih
def rkF (key : List Int) : List Int := (rkK key 10).1
theorem rkF_len (key : List Int) (h : key.length = 16) : (rkF key).length = 176 := rkK_len key h 10
theorem rkF_is (key : List Int) (i : Nat) (h : i = 10) : rkF key = (rkK key i).1 := by rw [h]; rfl
attribute [irreducible] rkF
def p12a : List Nat := [1, 9, 17, 25, 35, 41, 49, 57, 65, 76]
set_option maxHeartbeats 1000000 in
theorem rkeys_any (key : List Int) (w : World) (hk : key.length = 16) : Gives tb 12 [.agg (row key).toArray] w (.agg (row (rkF key)).toArray) := by
  refine gives_of (fn := Try.f12) Try.func12 rfl Try.ntmps12 rfl ?_
  refine c_seq (c_region (step_box_agg rfl rfl (fun bK => step_alloc rfl zero25 (fun bR => ?_))))
  repeat first
    | refine step_pure rfl (pure_build_arr rfl zero25 rfl rfl rfl rfl) ?_
    | refine step_alloc rfl zero25 (fun bO => ?_)
    | refine step_store_agg 0 rfl rfl rfl (row_one _) rfl (by rw [row_len, zeros_len]) rfl rfl (by simp only [row_len, zeros_len]; decide) (splice_all rfl) ?_
    | refine step_pure rfl (pure_load_agg (i := 2) rfl rfl rfl rfl rfl (by simp only [row_len, hk]; decide) (ints_whole _ _ 16 hk)) ?_
    | refine step_store_agg 0 rfl rfl rfl (row_one key) rfl (by rw [row_len]; exact hk) rfl rfl (by simp only [row_len, zeros_len]; decide) (show splice (row (zeros 176)) 0 (row key) = row (rkK key 0).1 from by rw [ints_splice]; unfold splice; rw [hk]; rfl) ?_
    | refine step_pure rfl (pure_move rfl) ?_
    | refine step_pure rfl (pure_add64 rfl rfl (by omega) (by omega)) ?_
    | refine step_pure rfl (pure_sub64 rfl rfl (by omega) (by omega)) ?_
    | refine step_pure rfl (pure_mul64 rfl rfl (by omega) (by omega)) ?_
    | refine step_pure rfl (pure_rem_pos rfl rfl (by omega) (by decide)) ?_
    | refine step_pure rfl (pure_lss rfl rfl) ?_
    | refine step_pure rfl (pure_leq rfl rfl) ?_
    | refine step_pure rfl (pure_gtr rfl rfl) ?_
    | refine step_pure rfl (pure_geq rfl rfl) ?_
    | refine step_pure rfl (pure_eql rfl rfl) ?_
    | refine step_pure rfl (pure_neq rfl rfl) ?_
    | refine step_pure rfl (pure_xor rfl rfl) ?_
    | refine step_pure rfl (pure_and rfl rfl) ?_
    | refine step_pure rfl (pure_or rfl rfl) ?_
    | refine step_pure rfl (pure_shl rfl rfl (by decide)) ?_
    | refine step_pure rfl (pure_shr rfl rfl (by decide)) ?_
    | refine step_pure rfl (pure_conv rfl rfl rfl rfl) ?_
    | refine step_pure rfl (pure_nilCheck rfl) ?_
    | refine step_pure rfl (pure_not rfl) ?_
    | refine step_pure rfl (pure_extract rfl rfl) ?_
    | refine step_pure rfl (pure_max rfl rfl) ?_
    | refine step_pure rfl (pure_min rfl rfl) ?_
    | refine step_pure rfl (pure_ix rfl rfl rfl rfl rfl (by decide) (by decide) rfl) ?_
    | refine step_pure rfl (pure_assign rfl) ?_
    | refine step_nil ?_
    | refine c_seq ?_
    | refine c_region ?_
    | refine c_block ?_
  refine c_loop (α := Nat) (fun k => [(2, .pointer (some ⟨bR, 0, none⟩)), (3, .pointer (some ⟨bO, 0, none⟩)), (4, .int .u8 (rkK key k).2), (5, .int .i64 (k + 1))])
    (fun k => [⟨bO, row (rkK key k).1, 25⟩, ⟨bR, row (zeros 176), 25⟩]) (fun k => k ≤ 10) (fun k => 10 - k) 0 (by decide) (less_sub ⟨rfl, rfl, rfl, rfl, trivial⟩ (by repeat (first | exact List.Sublist.slnil | apply List.Sublist.cons_cons | apply List.Sublist.cons))) ?_
  intro k hkk
  have hOl := rkK_len key hk k
  repeat first
    | refine step_pure rfl (pure_move rfl) ?_
    | refine step_pure rfl (pure_add64 rfl rfl (by omega) (by omega)) ?_
    | refine step_pure rfl (pure_sub64 rfl rfl (by omega) (by omega)) ?_
    | refine step_pure rfl (pure_mul64 rfl rfl (by omega) (by omega)) ?_
    | refine step_pure rfl (pure_rem_pos rfl rfl (by omega) (by decide)) ?_
    | refine step_pure rfl (pure_lss rfl rfl) ?_
    | refine step_pure rfl (pure_leq rfl rfl) ?_
    | refine step_pure rfl (pure_gtr rfl rfl) ?_
    | refine step_pure rfl (pure_geq rfl rfl) ?_
    | refine step_pure rfl (pure_eql rfl rfl) ?_
    | refine step_pure rfl (pure_neq rfl rfl) ?_
    | refine step_pure rfl (pure_xor rfl rfl) ?_
    | refine step_pure rfl (pure_and rfl rfl) ?_
    | refine step_pure rfl (pure_or rfl rfl) ?_
    | refine step_pure rfl (pure_shl rfl rfl (by decide)) ?_
    | refine step_pure rfl (pure_shr rfl rfl (by decide)) ?_
    | refine step_pure rfl (pure_conv rfl rfl rfl rfl) ?_
    | refine step_pure rfl (pure_nilCheck rfl) ?_
    | refine step_pure rfl (pure_not rfl) ?_
    | refine step_pure rfl (pure_extract rfl rfl) ?_
    | refine step_pure rfl (pure_max rfl rfl) ?_
    | refine step_pure rfl (pure_min rfl rfl) ?_
    | refine step_pure rfl (pure_ix rfl rfl rfl rfl rfl (by decide) (by decide) rfl) ?_
    | refine step_pure rfl (pure_assign rfl) ?_
    | refine step_nil ?_
    | refine c_seq ?_
    | refine c_region ?_
    | refine c_block ?_
  refine c_cond rfl (fun h => ?_) (fun h => ?_)
  · have hlt : k < 10 := by have := of_decide_eq_true h; omega
    clear h
    refine c_skip ?_
    have hnext := rkK_succ key k
    generalize (rkK key k).1 = O at hOl hnext ⊢
    generalize (rkK key k).2 = round at hnext ⊢
    have hWl : ((O.drop (16 * k)).take 16).length = 16 := by rw [List.length_take, List.length_drop, hOl]; omega
    repeat first
      | refine step_pure rfl (pure_ix (off' := 16 * k) rfl rfl rfl rfl rfl (by omega) (by omega) (by show 0 + ((k : Int) + 1 - 1).toNat * 16 = _; omega)) ?_
      | refine step_pure rfl (pure_load_agg (i := 0) rfl rfl rfl rfl rfl (by simp only [row_len, hOl]; show 16 * k + 16 ≤ 176; omega) (ints_sub _ _ _ _)) ?_
      | refine step_alloc rfl zero22 (fun bW => ?_)
      | refine step_store_agg 0 rfl rfl rfl (ints_one _ _) rfl (by rw [ints_len]; exact hWl) rfl rfl (by simp only [row_len, zeros_len]; decide) (splice_all (by simp only [ints_len, zeros_len]; exact hWl)) ?_
      | refine step_pure rfl (pure_move rfl) ?_
      | refine step_pure rfl (pure_add64 rfl rfl (by omega) (by omega)) ?_
      | refine step_pure rfl (pure_sub64 rfl rfl (by omega) (by omega)) ?_
      | refine step_pure rfl (pure_mul64 rfl rfl (by omega) (by omega)) ?_
      | refine step_pure rfl (pure_rem_pos rfl rfl (by omega) (by decide)) ?_
      | refine step_pure rfl (pure_lss rfl rfl) ?_
      | refine step_pure rfl (pure_leq rfl rfl) ?_
      | refine step_pure rfl (pure_gtr rfl rfl) ?_
      | refine step_pure rfl (pure_geq rfl rfl) ?_
      | refine step_pure rfl (pure_eql rfl rfl) ?_
      | refine step_pure rfl (pure_neq rfl rfl) ?_
      | refine step_pure rfl (pure_xor rfl rfl) ?_
      | refine step_pure rfl (pure_and rfl rfl) ?_
      | refine step_pure rfl (pure_or rfl rfl) ?_
      | refine step_pure rfl (pure_shl rfl rfl (by decide)) ?_
      | refine step_pure rfl (pure_shr rfl rfl (by decide)) ?_
      | refine step_pure rfl (pure_conv rfl rfl rfl rfl) ?_
      | refine step_pure rfl (pure_nilCheck rfl) ?_
      | refine step_pure rfl (pure_not rfl) ?_
      | refine step_pure rfl (pure_extract rfl rfl) ?_
      | refine step_pure rfl (pure_max rfl rfl) ?_
      | refine step_pure rfl (pure_min rfl rfl) ?_
      | refine step_pure rfl (pure_ix rfl rfl rfl rfl rfl (by decide) (by decide) rfl) ?_
      | refine step_pure rfl (pure_assign rfl) ?_
      | refine step_nil ?_
      | refine c_seq ?_
      | refine c_region ?_
      | refine c_block ?_
    generalize (O.drop (16 * k)).take 16 = W at hWl hnext
    refine c_loop (α := Nat) (fun c => [(2, .pointer (some ⟨bR, 0, none⟩)), (3, .pointer (some ⟨bO, 0, none⟩)), (4, .int .u8 round), (5, .int .i64 (k + 1)), (6, .pointer (some ⟨bW, 0, none⟩)), (7, .int .i64 c)])
      (fun c => [⟨bW, row W, 22⟩, ⟨bO, row (rkC W O k round c), 25⟩, ⟨bR, row (zeros 176), 25⟩]) (fun c => c ≤ 16) (fun c => 16 - c) 0 (by decide) (less_of ⟨rfl, rfl, rfl, rfl, rfl, rfl, trivial⟩ rfl) ?_
    intro c hc
    have hCl := (rkC_len W O k round c).trans hOl
    repeat first
      | refine step_pure rfl (pure_move rfl) ?_
      | refine step_pure rfl (pure_add64 rfl rfl (by omega) (by omega)) ?_
      | refine step_pure rfl (pure_sub64 rfl rfl (by omega) (by omega)) ?_
      | refine step_pure rfl (pure_mul64 rfl rfl (by omega) (by omega)) ?_
      | refine step_pure rfl (pure_rem_pos rfl rfl (by omega) (by decide)) ?_
      | refine step_pure rfl (pure_lss rfl rfl) ?_
      | refine step_pure rfl (pure_leq rfl rfl) ?_
      | refine step_pure rfl (pure_gtr rfl rfl) ?_
      | refine step_pure rfl (pure_geq rfl rfl) ?_
      | refine step_pure rfl (pure_eql rfl rfl) ?_
      | refine step_pure rfl (pure_neq rfl rfl) ?_
      | refine step_pure rfl (pure_xor rfl rfl) ?_
      | refine step_pure rfl (pure_and rfl rfl) ?_
      | refine step_pure rfl (pure_or rfl rfl) ?_
      | refine step_pure rfl (pure_shl rfl rfl (by decide)) ?_
      | refine step_pure rfl (pure_shr rfl rfl (by decide)) ?_
      | refine step_pure rfl (pure_conv rfl rfl rfl rfl) ?_
      | refine step_pure rfl (pure_nilCheck rfl) ?_
      | refine step_pure rfl (pure_not rfl) ?_
      | refine step_pure rfl (pure_extract rfl rfl) ?_
      | refine step_pure rfl (pure_max rfl rfl) ?_
      | refine step_pure rfl (pure_min rfl rfl) ?_
      | refine step_pure rfl (pure_ix rfl rfl rfl rfl rfl (by decide) (by decide) rfl) ?_
      | refine step_pure rfl (pure_assign rfl) ?_
      | refine step_nil ?_
      | refine c_seq ?_
      | refine c_region ?_
      | refine c_block ?_
    refine c_cond rfl (fun h => ?_) (fun h => ?_)
    · have hlt16 : c < 16 := by have := of_decide_eq_true h; omega
      clear h
      refine c_skip ?_
      have hnc : rkC W O k round (c + 1) = (rkC W O k round c).set (16 * (k + 1) + c) (xr (W.getD c 0) (rkA2 W (rkC W O k round c) k c round)) := rfl
      generalize rkC W O k round c = C at hCl hnc ⊢
      repeat first
        | refine step_pure rfl (pure_ix (off' := 16 * (k + 1)) rfl rfl rfl rfl rfl (by omega) (by omega) (by show 0 + ((k : Int) + 1).toNat * 16 = _; omega)) ?_
        | refine step_pure rfl (pure_ix (off' := 16 * (k + 1) + (c - 4)) rfl rfl rfl rfl rfl (by omega) (by omega) (by show 16 * (k + 1) + (max ((c : Int) - 4) 0).toNat * 1 = _; omega)) ?_
        | refine step_pure rfl (pure_load (i := 1) rfl rfl rfl rfl rfl (row_get _ _ (by omega))) ?_
        | refine step_pure rfl (pure_move rfl) ?_
        | refine step_pure rfl (pure_add64 rfl rfl (by omega) (by omega)) ?_
        | refine step_pure rfl (pure_sub64 rfl rfl (by omega) (by omega)) ?_
        | refine step_pure rfl (pure_mul64 rfl rfl (by omega) (by omega)) ?_
        | refine step_pure rfl (pure_rem_pos rfl rfl (by omega) (by decide)) ?_
        | refine step_pure rfl (pure_lss rfl rfl) ?_
        | refine step_pure rfl (pure_leq rfl rfl) ?_
        | refine step_pure rfl (pure_gtr rfl rfl) ?_
        | refine step_pure rfl (pure_geq rfl rfl) ?_
        | refine step_pure rfl (pure_eql rfl rfl) ?_
        | refine step_pure rfl (pure_neq rfl rfl) ?_
        | refine step_pure rfl (pure_xor rfl rfl) ?_
        | refine step_pure rfl (pure_and rfl rfl) ?_
        | refine step_pure rfl (pure_or rfl rfl) ?_
        | refine step_pure rfl (pure_shl rfl rfl (by decide)) ?_
        | refine step_pure rfl (pure_shr rfl rfl (by decide)) ?_
        | refine step_pure rfl (pure_conv rfl rfl rfl rfl) ?_
        | refine step_pure rfl (pure_nilCheck rfl) ?_
        | refine step_pure rfl (pure_not rfl) ?_
        | refine step_pure rfl (pure_extract rfl rfl) ?_
        | refine step_pure rfl (pure_max rfl rfl) ?_
        | refine step_pure rfl (pure_min rfl rfl) ?_
        | refine step_pure rfl (pure_ix rfl rfl rfl rfl rfl (by decide) (by decide) rfl) ?_
        | refine step_pure rfl (pure_assign rfl) ?_
        | refine step_nil ?_
        | refine c_seq ?_
        | refine c_region ?_
        | refine c_block ?_
      refine c_meet [(2, .pointer (some ⟨bR, 0, none⟩)), (3, .pointer (some ⟨bO, 0, none⟩)), (4, .int .u8 round), (5, .int .i64 (k + 1)), (6, .pointer (some ⟨bW, 0, none⟩)), (7, .int .i64 c), (8, .int .u8 (rkA1 W C k c))]
        [⟨bW, row W, 22⟩, ⟨bO, row C, 25⟩, ⟨bR, row (zeros 176), 25⟩] ?_ ?_
      · refine c_cond rfl (fun h => ?_) (fun h => ?_)
        · have h4 : c < 4 := by have := of_decide_eq_true h; omega
          have e : rkA1 W C k c = rbox (W.getD (12 + (c + 1) % 4) 0) := if_pos h4
          rw [e]
          repeat first
            | refine step_pure rfl (pure_ix (off' := 12 + (c + 1) % 4) rfl rfl rfl rfl rfl (by omega) (by omega) (by show 0 + (12 + ((c : Int) + 1) % 4).toNat * 1 = _; omega)) ?_
            | refine step_pure rfl (pure_load (i := 0) rfl rfl rfl rfl rfl (row_get _ _ (by omega))) ?_
            | refine step_gives rfl fun19 rfl (fun w _ _ => rbox_any _ w) ?_
            | refine step_pure rfl (pure_move rfl) ?_
            | refine step_pure rfl (pure_add64 rfl rfl (by omega) (by omega)) ?_
            | refine step_pure rfl (pure_sub64 rfl rfl (by omega) (by omega)) ?_
            | refine step_pure rfl (pure_mul64 rfl rfl (by omega) (by omega)) ?_
            | refine step_pure rfl (pure_rem_pos rfl rfl (by omega) (by decide)) ?_
            | refine step_pure rfl (pure_lss rfl rfl) ?_
            | refine step_pure rfl (pure_leq rfl rfl) ?_
            | refine step_pure rfl (pure_gtr rfl rfl) ?_
            | refine step_pure rfl (pure_geq rfl rfl) ?_
            | refine step_pure rfl (pure_eql rfl rfl) ?_
            | refine step_pure rfl (pure_neq rfl rfl) ?_
            | refine step_pure rfl (pure_xor rfl rfl) ?_
            | refine step_pure rfl (pure_and rfl rfl) ?_
            | refine step_pure rfl (pure_or rfl rfl) ?_
            | refine step_pure rfl (pure_shl rfl rfl (by decide)) ?_
            | refine step_pure rfl (pure_shr rfl rfl (by decide)) ?_
            | refine step_pure rfl (pure_conv rfl rfl rfl rfl) ?_
            | refine step_pure rfl (pure_nilCheck rfl) ?_
            | refine step_pure rfl (pure_not rfl) ?_
            | refine step_pure rfl (pure_extract rfl rfl) ?_
            | refine step_pure rfl (pure_max rfl rfl) ?_
            | refine step_pure rfl (pure_min rfl rfl) ?_
            | refine step_pure rfl (pure_ix rfl rfl rfl rfl rfl (by decide) (by decide) rfl) ?_
            | refine step_pure rfl (pure_assign rfl) ?_
            | refine step_nil ?_
            | refine c_seq ?_
            | refine c_region ?_
            | refine c_block ?_
          exact less_of ⟨rfl, rfl, rfl, rfl, rfl, rfl, rfl, trivial⟩ rfl
        · have h4 : ¬ c < 4 := by have := of_decide_eq_false h; omega
          have e : rkA1 W C k c = C.getD (16 * (k + 1) + (c - 4)) 0 := if_neg h4
          rw [e]
          exact c_skip (less_of ⟨rfl, rfl, rfl, rfl, rfl, rfl, rfl, trivial⟩ rfl)
      repeat first
        | refine step_pure rfl (pure_move rfl) ?_
        | refine step_pure rfl (pure_add64 rfl rfl (by omega) (by omega)) ?_
        | refine step_pure rfl (pure_sub64 rfl rfl (by omega) (by omega)) ?_
        | refine step_pure rfl (pure_mul64 rfl rfl (by omega) (by omega)) ?_
        | refine step_pure rfl (pure_rem_pos rfl rfl (by omega) (by decide)) ?_
        | refine step_pure rfl (pure_lss rfl rfl) ?_
        | refine step_pure rfl (pure_leq rfl rfl) ?_
        | refine step_pure rfl (pure_gtr rfl rfl) ?_
        | refine step_pure rfl (pure_geq rfl rfl) ?_
        | refine step_pure rfl (pure_eql rfl rfl) ?_
        | refine step_pure rfl (pure_neq rfl rfl) ?_
        | refine step_pure rfl (pure_xor rfl rfl) ?_
        | refine step_pure rfl (pure_and rfl rfl) ?_
        | refine step_pure rfl (pure_or rfl rfl) ?_
        | refine step_pure rfl (pure_shl rfl rfl (by decide)) ?_
        | refine step_pure rfl (pure_shr rfl rfl (by decide)) ?_
        | refine step_pure rfl (pure_conv rfl rfl rfl rfl) ?_
        | refine step_pure rfl (pure_nilCheck rfl) ?_
        | refine step_pure rfl (pure_not rfl) ?_
        | refine step_pure rfl (pure_extract rfl rfl) ?_
        | refine step_pure rfl (pure_max rfl rfl) ?_
        | refine step_pure rfl (pure_min rfl rfl) ?_
        | refine step_pure rfl (pure_ix rfl rfl rfl rfl rfl (by decide) (by decide) rfl) ?_
        | refine step_pure rfl (pure_assign rfl) ?_
        | refine step_nil ?_
        | refine c_seq ?_
        | refine c_region ?_
        | refine c_block ?_
      refine c_meet [(2, .pointer (some ⟨bR, 0, none⟩)), (3, .pointer (some ⟨bO, 0, none⟩)), (4, .int .u8 round), (5, .int .i64 (k + 1)), (6, .pointer (some ⟨bW, 0, none⟩)), (7, .int .i64 c), (8, .int .u8 (rkA2 W C k c round))]
        [⟨bW, row W, 22⟩, ⟨bO, row C, 25⟩, ⟨bR, row (zeros 176), 25⟩] ?_ ?_
      · refine c_cond rfl (fun h => ?_) (fun h => ?_)
        · have h4 : c = 0 := by have := eq_of_beq h; omega
          have e : rkA2 W C k c round = xr (rkA1 W C k c) round := if_pos h4
          rw [e]
          repeat first
            | refine step_pure rfl (pure_move rfl) ?_
            | refine step_pure rfl (pure_add64 rfl rfl (by omega) (by omega)) ?_
            | refine step_pure rfl (pure_sub64 rfl rfl (by omega) (by omega)) ?_
            | refine step_pure rfl (pure_mul64 rfl rfl (by omega) (by omega)) ?_
            | refine step_pure rfl (pure_rem_pos rfl rfl (by omega) (by decide)) ?_
            | refine step_pure rfl (pure_lss rfl rfl) ?_
            | refine step_pure rfl (pure_leq rfl rfl) ?_
            | refine step_pure rfl (pure_gtr rfl rfl) ?_
            | refine step_pure rfl (pure_geq rfl rfl) ?_
            | refine step_pure rfl (pure_eql rfl rfl) ?_
            | refine step_pure rfl (pure_neq rfl rfl) ?_
            | refine step_pure rfl (pure_xor rfl rfl) ?_
            | refine step_pure rfl (pure_and rfl rfl) ?_
            | refine step_pure rfl (pure_or rfl rfl) ?_
            | refine step_pure rfl (pure_shl rfl rfl (by decide)) ?_
            | refine step_pure rfl (pure_shr rfl rfl (by decide)) ?_
            | refine step_pure rfl (pure_conv rfl rfl rfl rfl) ?_
            | refine step_pure rfl (pure_nilCheck rfl) ?_
            | refine step_pure rfl (pure_not rfl) ?_
            | refine step_pure rfl (pure_extract rfl rfl) ?_
            | refine step_pure rfl (pure_max rfl rfl) ?_
            | refine step_pure rfl (pure_min rfl rfl) ?_
            | refine step_pure rfl (pure_ix rfl rfl rfl rfl rfl (by decide) (by decide) rfl) ?_
            | refine step_pure rfl (pure_assign rfl) ?_
            | refine step_nil ?_
            | refine c_seq ?_
            | refine c_region ?_
            | refine c_block ?_
          exact less_of ⟨rfl, rfl, rfl, rfl, rfl, rfl, rfl, trivial⟩ rfl
        · have h4 : ¬ c = 0 := by intro hc0; subst hc0; cases h
          have e : rkA2 W C k c round = rkA1 W C k c := if_neg h4
          rw [e]
          exact c_skip (less_of ⟨rfl, rfl, rfl, rfl, rfl, rfl, rfl, trivial⟩ rfl)
      repeat first
        | refine step_pure rfl (pure_move rfl) ?_
        | refine step_pure rfl (pure_add64 rfl rfl (by omega) (by omega)) ?_
        | refine step_pure rfl (pure_sub64 rfl rfl (by omega) (by omega)) ?_
        | refine step_pure rfl (pure_mul64 rfl rfl (by omega) (by omega)) ?_
        | refine step_pure rfl (pure_rem_pos rfl rfl (by omega) (by decide)) ?_
        | refine step_pure rfl (pure_lss rfl rfl) ?_
        | refine step_pure rfl (pure_leq rfl rfl) ?_
        | refine step_pure rfl (pure_gtr rfl rfl) ?_
        | refine step_pure rfl (pure_geq rfl rfl) ?_
        | refine step_pure rfl (pure_eql rfl rfl) ?_
        | refine step_pure rfl (pure_neq rfl rfl) ?_
        | refine step_pure rfl (pure_xor rfl rfl) ?_
        | refine step_pure rfl (pure_and rfl rfl) ?_
        | refine step_pure rfl (pure_or rfl rfl) ?_
        | refine step_pure rfl (pure_shl rfl rfl (by decide)) ?_
        | refine step_pure rfl (pure_shr rfl rfl (by decide)) ?_
        | refine step_pure rfl (pure_conv rfl rfl rfl rfl) ?_
        | refine step_pure rfl (pure_nilCheck rfl) ?_
        | refine step_pure rfl (pure_not rfl) ?_
        | refine step_pure rfl (pure_extract rfl rfl) ?_
        | refine step_pure rfl (pure_max rfl rfl) ?_
        | refine step_pure rfl (pure_min rfl rfl) ?_
        | refine step_pure rfl (pure_ix rfl rfl rfl rfl rfl (by decide) (by decide) rfl) ?_
        | refine step_pure rfl (pure_assign rfl) ?_
        | refine step_nil ?_
        | refine c_seq ?_
        | refine c_region ?_
        | refine c_block ?_
      refine d_region p12a follows (by kernel_rfl) ?_
      repeat first
        | refine d_pure0 rfl rfl rfl (pure_ix (off' := c) rfl rfl rfl rfl rfl (by omega) (by omega) (by show 0 + (c : Int).toNat * 1 = _; omega)) ?_
        | refine d_pure0 rfl rfl rfl (pure_ix (off' := 16 * (k + 1)) rfl rfl rfl rfl rfl (by omega) (by omega) (by show 0 + ((k : Int) + 1).toNat * 16 = _; omega)) ?_
        | refine d_pure0 rfl rfl rfl (pure_ix (off' := 16 * (k + 1) + c) rfl rfl rfl rfl rfl (by omega) (by omega) (by show 16 * (k + 1) + (c : Int).toNat * 1 = _; omega)) ?_
        | refine d_pure1 rfl rfl rfl (pure_load (i := 0) rfl rfl rfl rfl rfl (row_get _ _ (by omega))) (SubMem.refl _) ?_
        | refine d_store 1 rfl rfl rfl rfl rfl rfl rfl rfl rfl rfl (by rw [row_len]; omega) (row_set _ _ _) rfl rfl ?_
        | refine d_pure0 rfl rfl rfl (pure_move rfl) ?_
        | refine d_pure0 rfl rfl rfl (pure_add64 rfl rfl (by omega) (by omega)) ?_
        | refine d_pure0 rfl rfl rfl (pure_sub64 rfl rfl (by omega) (by omega)) ?_
        | refine d_pure0 rfl rfl rfl (pure_mul64 rfl rfl (by omega) (by omega)) ?_
        | refine d_pure0 rfl rfl rfl (pure_rem_pos rfl rfl (by omega) (by decide)) ?_
        | refine d_pure0 rfl rfl rfl (pure_lss rfl rfl) ?_
        | refine d_pure0 rfl rfl rfl (pure_leq rfl rfl) ?_
        | refine d_pure0 rfl rfl rfl (pure_gtr rfl rfl) ?_
        | refine d_pure0 rfl rfl rfl (pure_geq rfl rfl) ?_
        | refine d_pure0 rfl rfl rfl (pure_eql rfl rfl) ?_
        | refine d_pure0 rfl rfl rfl (pure_neq rfl rfl) ?_
        | refine d_pure0 rfl rfl rfl (pure_xor rfl rfl) ?_
        | refine d_pure0 rfl rfl rfl (pure_and rfl rfl) ?_
        | refine d_pure0 rfl rfl rfl (pure_or rfl rfl) ?_
        | refine d_pure0 rfl rfl rfl (pure_shl rfl rfl (by decide)) ?_
        | refine d_pure0 rfl rfl rfl (pure_shr rfl rfl (by decide)) ?_
        | refine d_pure0 rfl rfl rfl (pure_conv rfl rfl rfl rfl) ?_
        | refine d_pure0 rfl rfl rfl (pure_nilCheck rfl) ?_
        | refine d_pure0 rfl rfl rfl (pure_not rfl) ?_
        | refine d_pure0 rfl rfl rfl (pure_extract rfl rfl) ?_
        | refine d_pure0 rfl rfl rfl (pure_max rfl rfl) ?_
        | refine d_pure0 rfl rfl rfl (pure_min rfl rfl) ?_
        | refine d_pure0 rfl rfl rfl (pure_ix rfl rfl rfl rfl rfl (by decide) (by decide) rfl) ?_
        | refine d_pure0 rfl rfl rfl (pure_assign rfl) ?_
        | refine d_nil ?_
      repeat first
        | refine step_pure rfl (pure_move rfl) ?_
        | refine step_pure rfl (pure_add64 rfl rfl (by omega) (by omega)) ?_
        | refine step_pure rfl (pure_sub64 rfl rfl (by omega) (by omega)) ?_
        | refine step_pure rfl (pure_mul64 rfl rfl (by omega) (by omega)) ?_
        | refine step_pure rfl (pure_rem_pos rfl rfl (by omega) (by decide)) ?_
        | refine step_pure rfl (pure_lss rfl rfl) ?_
        | refine step_pure rfl (pure_leq rfl rfl) ?_
        | refine step_pure rfl (pure_gtr rfl rfl) ?_
        | refine step_pure rfl (pure_geq rfl rfl) ?_
        | refine step_pure rfl (pure_eql rfl rfl) ?_
        | refine step_pure rfl (pure_neq rfl rfl) ?_
        | refine step_pure rfl (pure_xor rfl rfl) ?_
        | refine step_pure rfl (pure_and rfl rfl) ?_
        | refine step_pure rfl (pure_or rfl rfl) ?_
        | refine step_pure rfl (pure_shl rfl rfl (by decide)) ?_
        | refine step_pure rfl (pure_shr rfl rfl (by decide)) ?_
        | refine step_pure rfl (pure_conv rfl rfl rfl rfl) ?_
        | refine step_pure rfl (pure_nilCheck rfl) ?_
        | refine step_pure rfl (pure_not rfl) ?_
        | refine step_pure rfl (pure_extract rfl rfl) ?_
        | refine step_pure rfl (pure_max rfl rfl) ?_
        | refine step_pure rfl (pure_min rfl rfl) ?_
        | refine step_pure rfl (pure_ix rfl rfl rfl rfl rfl (by decide) (by decide) rfl) ?_
        | refine step_pure rfl (pure_assign rfl) ?_
        | refine step_nil ?_
        | refine c_seq ?_
        | refine c_region ?_
        | refine c_block ?_
      refine ⟨c + 1, hlt16, by omega, less_of ⟨rfl, rfl, rfl, rfl, rfl, rfl, trivial⟩ ?_⟩
      rw [hnc]; rfl
    · have hc16 : c = 16 := by have := of_decide_eq_false h; omega
      have hT : row (rkC W O k round c) = row (rkK key (k + 1)).1 := by rw [hc16, hnext]
      rw [hT]
      clear h hc16 hT hCl
      refine c_exit ?_
      have fun20' := fun20
      repeat first
        | refine step_gives rfl fun20 rfl (fun w _ _ => times_any _ _ w) ?_
        | refine step_pure rfl (pure_move rfl) ?_
        | refine step_pure rfl (pure_add64 rfl rfl (by omega) (by omega)) ?_
        | refine step_pure rfl (pure_sub64 rfl rfl (by omega) (by omega)) ?_
        | refine step_pure rfl (pure_mul64 rfl rfl (by omega) (by omega)) ?_
        | refine step_pure rfl (pure_rem_pos rfl rfl (by omega) (by decide)) ?_
        | refine step_pure rfl (pure_lss rfl rfl) ?_
        | refine step_pure rfl (pure_leq rfl rfl) ?_
        | refine step_pure rfl (pure_gtr rfl rfl) ?_
        | refine step_pure rfl (pure_geq rfl rfl) ?_
        | refine step_pure rfl (pure_eql rfl rfl) ?_
        | refine step_pure rfl (pure_neq rfl rfl) ?_
        | refine step_pure rfl (pure_xor rfl rfl) ?_
        | refine step_pure rfl (pure_and rfl rfl) ?_
        | refine step_pure rfl (pure_or rfl rfl) ?_
        | refine step_pure rfl (pure_shl rfl rfl (by decide)) ?_
        | refine step_pure rfl (pure_shr rfl rfl (by decide)) ?_
        | refine step_pure rfl (pure_conv rfl rfl rfl rfl) ?_
        | refine step_pure rfl (pure_nilCheck rfl) ?_
        | refine step_pure rfl (pure_not rfl) ?_
        | refine step_pure rfl (pure_extract rfl rfl) ?_
        | refine step_pure rfl (pure_max rfl rfl) ?_
        | refine step_pure rfl (pure_min rfl rfl) ?_
        | refine step_pure rfl (pure_ix rfl rfl rfl rfl rfl (by decide) (by decide) rfl) ?_
        | refine step_pure rfl (pure_assign rfl) ?_
        | refine step_nil ?_
        | refine c_seq ?_
        | refine c_region ?_
        | refine c_block ?_
      refine ⟨k + 1, hlt, by omega, ⟨look_all ⟨rfl, rfl, ?_, rfl, trivial⟩, fun _ h => ⟨h.2.2.1, h.2.2.2.1, h.2.2.2.2⟩, fun _ h => h.2⟩⟩
      rw [hnext]; rfl
  · have hk10 : k = 10 := by have := of_decide_eq_false h; omega
    have hT : row (rkF key) = row (rkK key k).1 := by rw [rkF_is key k hk10]
    rw [hT]
    have hl' : (row (rkK key k).1).length = 176 := by rw [row_len, hOl]
    have hone : ∀ v ∈ row (rkK key k).1, v.oneCell' = true := row_one _
    generalize row (rkK key k).1 = T at hl' hone ⊢
    clear h hT hk10 hOl hkk
    refine c_exit ?_
    repeat first
      | refine step_pure rfl (pure_load_agg (i := 0) rfl rfl rfl rfl rfl (by rw [hl']; decide) (show _ = T from by rw [List.drop_zero, List.take_of_length_le (by rw [hl']; decide)])) ?_
      | refine step_pure rfl (pure_move rfl) ?_
      | refine step_pure rfl (pure_add64 rfl rfl (by omega) (by omega)) ?_
      | refine step_pure rfl (pure_sub64 rfl rfl (by omega) (by omega)) ?_
      | refine step_pure rfl (pure_mul64 rfl rfl (by omega) (by omega)) ?_
      | refine step_pure rfl (pure_rem_pos rfl rfl (by omega) (by decide)) ?_
      | refine step_pure rfl (pure_lss rfl rfl) ?_
      | refine step_pure rfl (pure_leq rfl rfl) ?_
      | refine step_pure rfl (pure_gtr rfl rfl) ?_
      | refine step_pure rfl (pure_geq rfl rfl) ?_
      | refine step_pure rfl (pure_eql rfl rfl) ?_
      | refine step_pure rfl (pure_neq rfl rfl) ?_
      | refine step_pure rfl (pure_xor rfl rfl) ?_
      | refine step_pure rfl (pure_and rfl rfl) ?_
      | refine step_pure rfl (pure_or rfl rfl) ?_
      | refine step_pure rfl (pure_shl rfl rfl (by decide)) ?_
      | refine step_pure rfl (pure_shr rfl rfl (by decide)) ?_
      | refine step_pure rfl (pure_conv rfl rfl rfl rfl) ?_
      | refine step_pure rfl (pure_nilCheck rfl) ?_
      | refine step_pure rfl (pure_not rfl) ?_
      | refine step_pure rfl (pure_extract rfl rfl) ?_
      | refine step_pure rfl (pure_max rfl rfl) ?_
      | refine step_pure rfl (pure_min rfl rfl) ?_
      | refine step_pure rfl (pure_ix rfl rfl rfl rfl rfl (by decide) (by decide) rfl) ?_
      | refine step_pure rfl (pure_assign rfl) ?_
      | refine step_nil ?_
      | refine c_seq ?_
      | refine c_region ?_
      | refine c_block ?_
    refine step_store_agg 1 rfl rfl rfl hone rfl hl' rfl rfl (by simp only [row_len, zeros_len]; decide) (splice_all (by rw [hl', row_len, zeros_len])) ?_
    refine step_nil (c_ret ⟨_, res_cell_agg (i := 1) Try.results12 rfl rfl rfl rfl rfl (by show 0 + 176 ≤ T.length; rw [hl']; decide) rfl, ?_⟩)
    show Value.agg ((T.drop 0).take 176).toArray = _
    rw [List.drop_zero, List.take_of_length_le (by rw [hl']; decide)]
end Go.Proofs.Ytgpjbfedbncniaa
