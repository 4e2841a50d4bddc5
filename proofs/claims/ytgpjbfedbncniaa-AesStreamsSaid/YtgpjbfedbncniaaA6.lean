import Derived.Test.YtgpjbfedbncniaaA5
namespace Go.Proofs.Ytgpjbfedbncniaa
open Go.RowKit Go.Vc
set_option linter.unusedVariables false

def rsR (s T : List Int) (c : Nat) : Nat → List Int
  | 0 => T
  | r + 1 => (rsR s T c r).set (4 * c + r) (rbox (s.getD (4 * ((c + r) % 4) + r) 0))
def rsC (s : List Int) : Nat → List Int
  | 0 => zeros 16
  | c + 1 => rsR s (rsC s c) c 4
def rmR (t U : List Int) (c : Nat) : Nat → List Int
  | 0 => U
  | r + 1 => (rmR t U c r).set (4 * c + r) (xr (xr (xr (tms (t.getD (4 * c + r) 0) 2) (tms (t.getD (4 * c + (r + 1) % 4) 0) 3)) (t.getD (4 * c + (r + 2) % 4) 0)) (t.getD (4 * c + (r + 3) % 4) 0))
def rmC (t : List Int) : Nat → List Int
  | 0 => t
  | c + 1 => rmR t (rmC t c) c 4
def rrnd (K s : List Int) (n : Nat) : List Int := chS (if n < 10 then rmC (rsC s 4) 4 else rsC s 4) ((K.drop (16 * n)).take 16) 16
def rblk (K b : List Int) : Nat → List Int
  | 0 => chS b ((K.drop (16 * 0)).take 16) 16
  | n + 1 => rrnd K (rblk K b n) (n + 1)
theorem rsR_len (s T : List Int) (c r : Nat) : (rsR s T c r).length = T.length := by
  induction r with
  | zero => rfl
  | succ r ih => exact (List.length_set ..).trans ih
theorem rsC_len (s : List Int) (c : Nat) : (rsC s c).length = 16 := by
  induction c with
  | zero => exact zeros_len 16
  | succ c ih => exact (rsR_len ..).trans ih
theorem rmR_len (t U : List Int) (c r : Nat) : (rmR t U c r).length = U.length := by
  induction r with
  | zero => rfl
  | succ r ih => exact (List.length_set ..).trans ih
theorem rmC_len (t : List Int) (c : Nat) : (rmC t c).length = t.length := by
  induction c with
  | zero => rfl
  | succ c ih => exact (rmR_len ..).trans ih
theorem rrnd_len (K s : List Int) (n : Nat) : (rrnd K s n).length = 16 := by
  unfold rrnd
  rw [chS_len]
  split
  · rw [rmC_len, rsC_len]
  · rw [rsC_len]
theorem rblk_len (K b : List Int) (h : b.length = 16) (n : Nat) : (rblk K b n).length = 16 := by
  cases n with
  | zero => exact (chS_len ..).trans h
  | succ n => exact rrnd_len ..

def rblkF (K b : List Int) : List Int := rblk K b 10
theorem rblkF_len (K b : List Int) (h : b.length = 16) : (rblkF K b).length = 16 := rblk_len K b h 10
theorem rblkF_is (K b : List Int) (i : Nat) (h : i = 10) : rblkF K b = rblk K b i := by rw [h]; rfl
attribute [irreducible] rblkF
def p10a : List Nat := [1, 9, 17, 25, 33, 41, 49, 57, 65, 75, 83, 89, 97, 105, 113, 121, 129, 137, 147, 155, 161, 169, 177, 185, 193, 201, 209, 217, 227, 233, 241, 249, 257, 265, 273, 281, 289, 299, 305, 313, 324]
def p10b : List Nat := [3, 9, 17, 27, 35, 44]
set_option maxHeartbeats 2000000 in
theorem rblock_any (key b : List Int) (w : World) (hk : key.length = 16) (hb : b.length = 16) :
    Gives tb 10 [.agg (row key).toArray, .agg (row b).toArray] w (.agg (row (rblkF (rkF key) b)).toArray) := by
  refine gives_of (fn := Try.f10) Try.func10 rfl Try.ntmps10 rfl ?_
  have hKl := rkF_len key hk
  refine c_seq (c_region (step_box_agg rfl rfl (fun bK => step_box_agg rfl rfl (fun bI => step_alloc rfl zero22 (fun bR => ?_)))))
  repeat first
    | refine step_pure rfl (pure_load_agg (i := 2) rfl rfl rfl rfl rfl (by simp only [row_len, hk]; decide) (ints_whole _ _ 16 hk)) ?_
    | refine step_gives rfl fun12 rfl (fun w _ _ => rkeys_any _ w hk) ?_
    | refine step_pure rfl (pure_move rfl) ?_
    | refine step_pure rfl (pure_add64 rfl rfl (by omega) (by omega)) ?_
    | refine step_pure rfl (pure_sub64 rfl rfl (by omega) (by omega)) ?_
    | refine step_pure rfl (pure_mul64 rfl rfl (by omega) (by omega)) ?_
    | refine step_pure rfl (pure_rem_pos rfl rfl (by omega) (by decide)) ?_
    | refine step_pure rfl (pure_lss rfl rfl) ?_
    | refine step_pure rfl (pure_leq rfl rfl) ?_
    | refine step_pure rfl (pure_gtr rfl rfl) ?_
    | refine step_pure rfl (pure_geq rfl rfl) ?_
    | refine step_pure rfl (pure_eql rfl rfl) ?_
    | refine step_pure rfl (pure_neq rfl rfl) ?_
    | refine step_pure rfl (pure_xor rfl rfl) ?_
    | refine step_pure rfl (pure_and rfl rfl) ?_
    | refine step_pure rfl (pure_or rfl rfl) ?_
    | refine step_pure rfl (pure_shl rfl rfl (by decide)) ?_
    | refine step_pure rfl (pure_shr rfl rfl (by decide)) ?_
    | refine step_pure rfl (pure_conv rfl rfl rfl rfl) ?_
    | refine step_pure rfl (pure_nilCheck rfl) ?_
    | refine step_pure rfl (pure_not rfl) ?_
    | refine step_pure rfl (pure_extract rfl rfl) ?_
    | refine step_pure rfl (pure_max rfl rfl) ?_
    | refine step_pure rfl (pure_min rfl rfl) ?_
    | refine step_pure rfl (pure_ix rfl rfl rfl rfl rfl (by decide) (by decide) rfl) ?_
    | refine step_pure rfl (pure_assign rfl) ?_
    | refine step_nil ?_
    | refine c_seq ?_
    | refine c_region ?_
    | refine c_block ?_
  generalize rkF key = K at hKl ⊢
  have hsub : ∀ n, n ≤ 10 → ((K.drop (16 * n)).take 16).length = 16 := fun n hn => by rw [List.length_take, List.length_drop, hKl]; omega
  repeat first
    | refine step_alloc rfl zero25 (fun bO => ?_)
    | refine step_store_agg 0 rfl rfl rfl (row_one _) rfl (by rw [row_len]; exact hKl) rfl rfl (by simp only [row_len, zeros_len]; decide) (splice_all (by simp only [row_len, zeros_len, hKl])) ?_
    | refine step_pure rfl (pure_ix (off' := 16 * 0) rfl rfl rfl rfl rfl (by decide) (by decide) rfl) ?_
    | refine step_pure rfl (pure_load_agg (i := 2) rfl rfl rfl rfl rfl (by simp only [row_len, hb]; decide) (ints_whole _ _ 16 hb)) ?_
    | refine step_pure rfl (pure_load_agg (i := 0) rfl rfl rfl rfl rfl (by simp only [row_len, hKl]; decide) (ints_sub _ _ _ _)) ?_
    | refine step_gives rfl fun18 rfl (fun w _ _ => changed_any _ _ w hb (hsub 0 (by decide))) ?_
    | refine step_pure rfl (pure_move rfl) ?_
    | refine step_pure rfl (pure_add64 rfl rfl (by omega) (by omega)) ?_
    | refine step_pure rfl (pure_sub64 rfl rfl (by omega) (by omega)) ?_
    | refine step_pure rfl (pure_mul64 rfl rfl (by omega) (by omega)) ?_
    | refine step_pure rfl (pure_rem_pos rfl rfl (by omega) (by decide)) ?_
    | refine step_pure rfl (pure_lss rfl rfl) ?_
    | refine step_pure rfl (pure_leq rfl rfl) ?_
    | refine step_pure rfl (pure_gtr rfl rfl) ?_
    | refine step_pure rfl (pure_geq rfl rfl) ?_
    | refine step_pure rfl (pure_eql rfl rfl) ?_
    | refine step_pure rfl (pure_neq rfl rfl) ?_
    | refine step_pure rfl (pure_xor rfl rfl) ?_
    | refine step_pure rfl (pure_and rfl rfl) ?_
    | refine step_pure rfl (pure_or rfl rfl) ?_
    | refine step_pure rfl (pure_shl rfl rfl (by decide)) ?_
    | refine step_pure rfl (pure_shr rfl rfl (by decide)) ?_
    | refine step_pure rfl (pure_conv rfl rfl rfl rfl) ?_
    | refine step_pure rfl (pure_nilCheck rfl) ?_
    | refine step_pure rfl (pure_not rfl) ?_
    | refine step_pure rfl (pure_extract rfl rfl) ?_
    | refine step_pure rfl (pure_max rfl rfl) ?_
    | refine step_pure rfl (pure_min rfl rfl) ?_
    | refine step_pure rfl (pure_ix rfl rfl rfl rfl rfl (by decide) (by decide) rfl) ?_
    | refine step_pure rfl (pure_assign rfl) ?_
    | refine step_nil ?_
    | refine c_seq ?_
    | refine c_region ?_
    | refine c_block ?_
  repeat first
    | refine step_alloc rfl zero22 (fun bS => ?_)
    | refine step_store_agg 0 rfl rfl rfl (row_one _) rfl (by rw [row_len, chS_len]; exact hb) rfl rfl (by simp only [row_len, zeros_len]; decide) (splice_all (by simp only [row_len, zeros_len, chS_len, hb])) ?_
    | refine step_pure rfl (pure_move rfl) ?_
    | refine step_pure rfl (pure_add64 rfl rfl (by omega) (by omega)) ?_
    | refine step_pure rfl (pure_sub64 rfl rfl (by omega) (by omega)) ?_
    | refine step_pure rfl (pure_mul64 rfl rfl (by omega) (by omega)) ?_
    | refine step_pure rfl (pure_rem_pos rfl rfl (by omega) (by decide)) ?_
    | refine step_pure rfl (pure_lss rfl rfl) ?_
    | refine step_pure rfl (pure_leq rfl rfl) ?_
    | refine step_pure rfl (pure_gtr rfl rfl) ?_
    | refine step_pure rfl (pure_geq rfl rfl) ?_
    | refine step_pure rfl (pure_eql rfl rfl) ?_
    | refine step_pure rfl (pure_neq rfl rfl) ?_
    | refine step_pure rfl (pure_xor rfl rfl) ?_
    | refine step_pure rfl (pure_and rfl rfl) ?_
    | refine step_pure rfl (pure_or rfl rfl) ?_
    | refine step_pure rfl (pure_shl rfl rfl (by decide)) ?_
    | refine step_pure rfl (pure_shr rfl rfl (by decide)) ?_
    | refine step_pure rfl (pure_conv rfl rfl rfl rfl) ?_
    | refine step_pure rfl (pure_nilCheck rfl) ?_
    | refine step_pure rfl (pure_not rfl) ?_
    | refine step_pure rfl (pure_extract rfl rfl) ?_
    | refine step_pure rfl (pure_max rfl rfl) ?_
    | refine step_pure rfl (pure_min rfl rfl) ?_
    | refine step_pure rfl (pure_ix rfl rfl rfl rfl rfl (by decide) (by decide) rfl) ?_
    | refine step_pure rfl (pure_assign rfl) ?_
    | refine step_nil ?_
    | refine c_seq ?_
    | refine c_region ?_
    | refine c_block ?_
  refine c_loop (α := Nat) (fun n => [(4, .pointer (some ⟨bR, 0, none⟩)), (5, .pointer (some ⟨bO, 0, none⟩)), (6, .pointer (some ⟨bS, 0, none⟩)), (7, .int .i64 (n + 1))])
    (fun n => [⟨bS, row (rblk K b n), 22⟩, ⟨bO, row K, 25⟩, ⟨bR, row (zeros 16), 22⟩]) (fun n => n ≤ 10) (fun n => 10 - n) 0 (by decide)
    (less_sub ⟨rfl, rfl, rfl, rfl, trivial⟩ (by repeat (first | exact List.Sublist.slnil | apply List.Sublist.cons_cons | apply List.Sublist.cons))) ?_
  intro n hn
  have hBl := rblk_len K b hb n
  repeat first
    | refine step_pure rfl (pure_move rfl) ?_
    | refine step_pure rfl (pure_add64 rfl rfl (by omega) (by omega)) ?_
    | refine step_pure rfl (pure_sub64 rfl rfl (by omega) (by omega)) ?_
    | refine step_pure rfl (pure_mul64 rfl rfl (by omega) (by omega)) ?_
    | refine step_pure rfl (pure_rem_pos rfl rfl (by omega) (by decide)) ?_
    | refine step_pure rfl (pure_lss rfl rfl) ?_
    | refine step_pure rfl (pure_leq rfl rfl) ?_
    | refine step_pure rfl (pure_gtr rfl rfl) ?_
    | refine step_pure rfl (pure_geq rfl rfl) ?_
    | refine step_pure rfl (pure_eql rfl rfl) ?_
    | refine step_pure rfl (pure_neq rfl rfl) ?_
    | refine step_pure rfl (pure_xor rfl rfl) ?_
    | refine step_pure rfl (pure_and rfl rfl) ?_
    | refine step_pure rfl (pure_or rfl rfl) ?_
    | refine step_pure rfl (pure_shl rfl rfl (by decide)) ?_
    | refine step_pure rfl (pure_shr rfl rfl (by decide)) ?_
    | refine step_pure rfl (pure_conv rfl rfl rfl rfl) ?_
    | refine step_pure rfl (pure_nilCheck rfl) ?_
    | refine step_pure rfl (pure_not rfl) ?_
    | refine step_pure rfl (pure_extract rfl rfl) ?_
    | refine step_pure rfl (pure_max rfl rfl) ?_
    | refine step_pure rfl (pure_min rfl rfl) ?_
    | refine step_pure rfl (pure_ix rfl rfl rfl rfl rfl (by decide) (by decide) rfl) ?_
    | refine step_pure rfl (pure_assign rfl) ?_
    | refine step_nil ?_
    | refine c_seq ?_
    | refine c_region ?_
    | refine c_block ?_
  refine c_cond rfl (fun h => ?_) (fun h => ?_)
  · have hlt : n < 10 := by have := of_decide_eq_true h; omega
    clear h
    refine c_skip ?_
    have hnext : rblk K b (n + 1) = rrnd K (rblk K b n) (n + 1) := rfl
    generalize rblk K b n = s at hBl hnext ⊢
    repeat first
      | refine step_pure rfl (pure_build_arr rfl zero22 rfl rfl rfl rfl) ?_
      | refine step_alloc rfl zero22 (fun bT => ?_)
      | refine step_store_agg 0 rfl rfl rfl (row_one _) rfl (by rw [row_len, zeros_len]) rfl rfl (by simp only [row_len, zeros_len]; decide) (splice_all rfl) ?_
      | refine step_pure rfl (pure_move rfl) ?_
      | refine step_pure rfl (pure_add64 rfl rfl (by omega) (by omega)) ?_
      | refine step_pure rfl (pure_sub64 rfl rfl (by omega) (by omega)) ?_
      | refine step_pure rfl (pure_mul64 rfl rfl (by omega) (by omega)) ?_
      | refine step_pure rfl (pure_rem_pos rfl rfl (by omega) (by decide)) ?_
      | refine step_pure rfl (pure_lss rfl rfl) ?_
      | refine step_pure rfl (pure_leq rfl rfl) ?_
      | refine step_pure rfl (pure_gtr rfl rfl) ?_
      | refine step_pure rfl (pure_geq rfl rfl) ?_
      | refine step_pure rfl (pure_eql rfl rfl) ?_
      | refine step_pure rfl (pure_neq rfl rfl) ?_
      | refine step_pure rfl (pure_xor rfl rfl) ?_
      | refine step_pure rfl (pure_and rfl rfl) ?_
      | refine step_pure rfl (pure_or rfl rfl) ?_
      | refine step_pure rfl (pure_shl rfl rfl (by decide)) ?_
      | refine step_pure rfl (pure_shr rfl rfl (by decide)) ?_
      | refine step_pure rfl (pure_conv rfl rfl rfl rfl) ?_
      | refine step_pure rfl (pure_nilCheck rfl) ?_
      | refine step_pure rfl (pure_not rfl) ?_
      | refine step_pure rfl (pure_extract rfl rfl) ?_
      | refine step_pure rfl (pure_max rfl rfl) ?_
      | refine step_pure rfl (pure_min rfl rfl) ?_
      | refine step_pure rfl (pure_ix rfl rfl rfl rfl rfl (by decide) (by decide) rfl) ?_
      | refine step_pure rfl (pure_assign rfl) ?_
      | refine step_nil ?_
      | refine c_seq ?_
      | refine c_region ?_
      | refine c_block ?_
    refine c_loop (α := Nat) (fun c => [(4, .pointer (some ⟨bR, 0, none⟩)), (5, .pointer (some ⟨bO, 0, none⟩)), (6, .pointer (some ⟨bS, 0, none⟩)), (7, .int .i64 (n + 1)), (8, .pointer (some ⟨bT, 0, none⟩)), (9, .int .i64 c)])
      (fun c => [⟨bT, row (rsC s c), 22⟩, ⟨bS, row s, 22⟩, ⟨bO, row K, 25⟩, ⟨bR, row (zeros 16), 22⟩]) (fun c => c ≤ 4) (fun c => 4 - c) 0 (by decide) (less_of ⟨rfl, rfl, rfl, rfl, rfl, rfl, trivial⟩ rfl) ?_
    intro c hc
    have hcl := rsC_len s c
    repeat first
      | refine step_pure rfl (pure_move rfl) ?_
      | refine step_pure rfl (pure_add64 rfl rfl (by omega) (by omega)) ?_
      | refine step_pure rfl (pure_sub64 rfl rfl (by omega) (by omega)) ?_
      | refine step_pure rfl (pure_mul64 rfl rfl (by omega) (by omega)) ?_
      | refine step_pure rfl (pure_rem_pos rfl rfl (by omega) (by decide)) ?_
      | refine step_pure rfl (pure_lss rfl rfl) ?_
      | refine step_pure rfl (pure_leq rfl rfl) ?_
      | refine step_pure rfl (pure_gtr rfl rfl) ?_
      | refine step_pure rfl (pure_geq rfl rfl) ?_
      | refine step_pure rfl (pure_eql rfl rfl) ?_
      | refine step_pure rfl (pure_neq rfl rfl) ?_
      | refine step_pure rfl (pure_xor rfl rfl) ?_
      | refine step_pure rfl (pure_and rfl rfl) ?_
      | refine step_pure rfl (pure_or rfl rfl) ?_
      | refine step_pure rfl (pure_shl rfl rfl (by decide)) ?_
      | refine step_pure rfl (pure_shr rfl rfl (by decide)) ?_
      | refine step_pure rfl (pure_conv rfl rfl rfl rfl) ?_
      | refine step_pure rfl (pure_nilCheck rfl) ?_
      | refine step_pure rfl (pure_not rfl) ?_
      | refine step_pure rfl (pure_extract rfl rfl) ?_
      | refine step_pure rfl (pure_max rfl rfl) ?_
      | refine step_pure rfl (pure_min rfl rfl) ?_
      | refine step_pure rfl (pure_ix rfl rfl rfl rfl rfl (by decide) (by decide) rfl) ?_
      | refine step_pure rfl (pure_assign rfl) ?_
      | refine step_nil ?_
      | refine c_seq ?_
      | refine c_region ?_
      | refine c_block ?_
    refine c_cond rfl (fun h => ?_) (fun h => ?_)
    · have hlt4 : c < 4 := by have := of_decide_eq_true h; omega
      clear h
      refine c_skip ?_
      have hnc : rsC s (c + 1) = rsR s (rsC s c) c 4 := rfl
      generalize rsC s c = T at hcl hnc ⊢
      repeat first
        | refine step_pure rfl (pure_move rfl) ?_
        | refine step_pure rfl (pure_add64 rfl rfl (by omega) (by omega)) ?_
        | refine step_pure rfl (pure_sub64 rfl rfl (by omega) (by omega)) ?_
        | refine step_pure rfl (pure_mul64 rfl rfl (by omega) (by omega)) ?_
        | refine step_pure rfl (pure_rem_pos rfl rfl (by omega) (by decide)) ?_
        | refine step_pure rfl (pure_lss rfl rfl) ?_
        | refine step_pure rfl (pure_leq rfl rfl) ?_
        | refine step_pure rfl (pure_gtr rfl rfl) ?_
        | refine step_pure rfl (pure_geq rfl rfl) ?_
        | refine step_pure rfl (pure_eql rfl rfl) ?_
        | refine step_pure rfl (pure_neq rfl rfl) ?_
        | refine step_pure rfl (pure_xor rfl rfl) ?_
        | refine step_pure rfl (pure_and rfl rfl) ?_
        | refine step_pure rfl (pure_or rfl rfl) ?_
        | refine step_pure rfl (pure_shl rfl rfl (by decide)) ?_
        | refine step_pure rfl (pure_shr rfl rfl (by decide)) ?_
        | refine step_pure rfl (pure_conv rfl rfl rfl rfl) ?_
        | refine step_pure rfl (pure_nilCheck rfl) ?_
        | refine step_pure rfl (pure_not rfl) ?_
        | refine step_pure rfl (pure_extract rfl rfl) ?_
        | refine step_pure rfl (pure_max rfl rfl) ?_
        | refine step_pure rfl (pure_min rfl rfl) ?_
        | refine step_pure rfl (pure_ix rfl rfl rfl rfl rfl (by decide) (by decide) rfl) ?_
        | refine step_pure rfl (pure_assign rfl) ?_
        | refine step_nil ?_
        | refine c_seq ?_
        | refine c_region ?_
        | refine c_block ?_
      refine c_loop (α := Nat) (fun r => [(4, .pointer (some ⟨bR, 0, none⟩)), (5, .pointer (some ⟨bO, 0, none⟩)), (6, .pointer (some ⟨bS, 0, none⟩)), (7, .int .i64 (n + 1)), (8, .pointer (some ⟨bT, 0, none⟩)), (9, .int .i64 c), (10, .int .i64 r)])
        (fun r => [⟨bT, row (rsR s T c r), 22⟩, ⟨bS, row s, 22⟩, ⟨bO, row K, 25⟩, ⟨bR, row (zeros 16), 22⟩]) (fun r => r ≤ 4) (fun r => 4 - r) 0 (by decide) (less_of ⟨rfl, rfl, rfl, rfl, rfl, rfl, rfl, trivial⟩ rfl) ?_
      intro r hr
      have hrl := (rsR_len s T c r).trans hcl
      repeat first
        | refine step_pure rfl (pure_move rfl) ?_
        | refine step_pure rfl (pure_add64 rfl rfl (by omega) (by omega)) ?_
        | refine step_pure rfl (pure_sub64 rfl rfl (by omega) (by omega)) ?_
        | refine step_pure rfl (pure_mul64 rfl rfl (by omega) (by omega)) ?_
        | refine step_pure rfl (pure_rem_pos rfl rfl (by omega) (by decide)) ?_
        | refine step_pure rfl (pure_lss rfl rfl) ?_
        | refine step_pure rfl (pure_leq rfl rfl) ?_
        | refine step_pure rfl (pure_gtr rfl rfl) ?_
        | refine step_pure rfl (pure_geq rfl rfl) ?_
        | refine step_pure rfl (pure_eql rfl rfl) ?_
        | refine step_pure rfl (pure_neq rfl rfl) ?_
        | refine step_pure rfl (pure_xor rfl rfl) ?_
        | refine step_pure rfl (pure_and rfl rfl) ?_
        | refine step_pure rfl (pure_or rfl rfl) ?_
        | refine step_pure rfl (pure_shl rfl rfl (by decide)) ?_
        | refine step_pure rfl (pure_shr rfl rfl (by decide)) ?_
        | refine step_pure rfl (pure_conv rfl rfl rfl rfl) ?_
        | refine step_pure rfl (pure_nilCheck rfl) ?_
        | refine step_pure rfl (pure_not rfl) ?_
        | refine step_pure rfl (pure_extract rfl rfl) ?_
        | refine step_pure rfl (pure_max rfl rfl) ?_
        | refine step_pure rfl (pure_min rfl rfl) ?_
        | refine step_pure rfl (pure_ix rfl rfl rfl rfl rfl (by decide) (by decide) rfl) ?_
        | refine step_pure rfl (pure_assign rfl) ?_
        | refine step_nil ?_
        | refine c_seq ?_
        | refine c_region ?_
        | refine c_block ?_
      refine c_cond rfl (fun h => ?_) (fun h => ?_)
      · have hr4 : r < 4 := by have := of_decide_eq_true h; omega
        clear h
        refine c_skip ?_
        repeat first
          | refine step_pure rfl (pure_ix (off' := 4 * ((c + r) % 4) + r) rfl rfl rfl rfl rfl (by omega) (by omega) (by show 0 + (4 * (((c + r : Nat) : Int) % 4) + r).toNat * 1 = _; omega)) ?_
          | refine step_pure rfl (pure_ix (off' := 4 * c + r) rfl rfl rfl rfl rfl (by omega) (by omega) (by show 0 + (4 * (c : Int) + r).toNat * 1 = _; omega)) ?_
          | refine step_pure rfl (pure_load (i := 1) rfl rfl rfl rfl rfl (row_get _ _ (by omega))) ?_
          | refine step_gives rfl fun19 rfl (fun w _ _ => rbox_any _ w) ?_
          | refine step_store 0 rfl rfl rfl rfl rfl rfl rfl rfl (by rw [row_len]; omega) (row_set _ _ _) ?_
          | refine step_pure rfl (pure_move rfl) ?_
          | refine step_pure rfl (pure_add64 rfl rfl (by omega) (by omega)) ?_
          | refine step_pure rfl (pure_sub64 rfl rfl (by omega) (by omega)) ?_
          | refine step_pure rfl (pure_mul64 rfl rfl (by omega) (by omega)) ?_
          | refine step_pure rfl (pure_rem_pos rfl rfl (by omega) (by decide)) ?_
          | refine step_pure rfl (pure_lss rfl rfl) ?_
          | refine step_pure rfl (pure_leq rfl rfl) ?_
          | refine step_pure rfl (pure_gtr rfl rfl) ?_
          | refine step_pure rfl (pure_geq rfl rfl) ?_
          | refine step_pure rfl (pure_eql rfl rfl) ?_
          | refine step_pure rfl (pure_neq rfl rfl) ?_
          | refine step_pure rfl (pure_xor rfl rfl) ?_
          | refine step_pure rfl (pure_and rfl rfl) ?_
          | refine step_pure rfl (pure_or rfl rfl) ?_
          | refine step_pure rfl (pure_shl rfl rfl (by decide)) ?_
          | refine step_pure rfl (pure_shr rfl rfl (by decide)) ?_
          | refine step_pure rfl (pure_conv rfl rfl rfl rfl) ?_
          | refine step_pure rfl (pure_nilCheck rfl) ?_
          | refine step_pure rfl (pure_not rfl) ?_
          | refine step_pure rfl (pure_extract rfl rfl) ?_
          | refine step_pure rfl (pure_max rfl rfl) ?_
          | refine step_pure rfl (pure_min rfl rfl) ?_
          | refine step_pure rfl (pure_ix rfl rfl rfl rfl rfl (by decide) (by decide) rfl) ?_
          | refine step_pure rfl (pure_assign rfl) ?_
          | refine step_nil ?_
          | refine c_seq ?_
          | refine c_region ?_
          | refine c_block ?_
        exact ⟨r + 1, hr4, by omega, less_of ⟨rfl, rfl, rfl, rfl, rfl, rfl, rfl, trivial⟩ rfl⟩
      · have hr4 : r = 4 := by have := of_decide_eq_false h; omega
        rw [hr4, ← hnc]
        refine c_exit ?_
        repeat first
          | refine step_pure rfl (pure_move rfl) ?_
          | refine step_pure rfl (pure_add64 rfl rfl (by omega) (by omega)) ?_
          | refine step_pure rfl (pure_sub64 rfl rfl (by omega) (by omega)) ?_
          | refine step_pure rfl (pure_mul64 rfl rfl (by omega) (by omega)) ?_
          | refine step_pure rfl (pure_rem_pos rfl rfl (by omega) (by decide)) ?_
          | refine step_pure rfl (pure_lss rfl rfl) ?_
          | refine step_pure rfl (pure_leq rfl rfl) ?_
          | refine step_pure rfl (pure_gtr rfl rfl) ?_
          | refine step_pure rfl (pure_geq rfl rfl) ?_
          | refine step_pure rfl (pure_eql rfl rfl) ?_
          | refine step_pure rfl (pure_neq rfl rfl) ?_
          | refine step_pure rfl (pure_xor rfl rfl) ?_
          | refine step_pure rfl (pure_and rfl rfl) ?_
          | refine step_pure rfl (pure_or rfl rfl) ?_
          | refine step_pure rfl (pure_shl rfl rfl (by decide)) ?_
          | refine step_pure rfl (pure_shr rfl rfl (by decide)) ?_
          | refine step_pure rfl (pure_conv rfl rfl rfl rfl) ?_
          | refine step_pure rfl (pure_nilCheck rfl) ?_
          | refine step_pure rfl (pure_not rfl) ?_
          | refine step_pure rfl (pure_extract rfl rfl) ?_
          | refine step_pure rfl (pure_max rfl rfl) ?_
          | refine step_pure rfl (pure_min rfl rfl) ?_
          | refine step_pure rfl (pure_ix rfl rfl rfl rfl rfl (by decide) (by decide) rfl) ?_
          | refine step_pure rfl (pure_assign rfl) ?_
          | refine step_nil ?_
          | refine c_seq ?_
          | refine c_region ?_
          | refine c_block ?_
        exact ⟨c + 1, hlt4, by omega, less_of ⟨rfl, rfl, rfl, rfl, rfl, rfl, trivial⟩ rfl⟩
    · have hc4 : c = 4 := by have := of_decide_eq_false h; omega
      have hT : rsC s c = rsC s 4 := by rw [hc4]
      rw [hT]
      have htl := rsC_len s 4
      have hnx : rrnd K s (n + 1) = chS (if n + 1 < 10 then rmC (rsC s 4) 4 else rsC s 4) ((K.drop (16 * (n + 1))).take 16) 16 := rfl
      generalize rsC s 4 = t at htl hnx ⊢
      clear h hT hc4 hcl hc
      refine c_exit ?_
      repeat first
        | refine step_pure rfl (pure_move rfl) ?_
        | refine step_pure rfl (pure_add64 rfl rfl (by omega) (by omega)) ?_
        | refine step_pure rfl (pure_sub64 rfl rfl (by omega) (by omega)) ?_
        | refine step_pure rfl (pure_mul64 rfl rfl (by omega) (by omega)) ?_
        | refine step_pure rfl (pure_rem_pos rfl rfl (by omega) (by decide)) ?_
        | refine step_pure rfl (pure_lss rfl rfl) ?_
        | refine step_pure rfl (pure_leq rfl rfl) ?_
        | refine step_pure rfl (pure_gtr rfl rfl) ?_
        | refine step_pure rfl (pure_geq rfl rfl) ?_
        | refine step_pure rfl (pure_eql rfl rfl) ?_
        | refine step_pure rfl (pure_neq rfl rfl) ?_
        | refine step_pure rfl (pure_xor rfl rfl) ?_
        | refine step_pure rfl (pure_and rfl rfl) ?_
        | refine step_pure rfl (pure_or rfl rfl) ?_
        | refine step_pure rfl (pure_shl rfl rfl (by decide)) ?_
        | refine step_pure rfl (pure_shr rfl rfl (by decide)) ?_
        | refine step_pure rfl (pure_conv rfl rfl rfl rfl) ?_
        | refine step_pure rfl (pure_nilCheck rfl) ?_
        | refine step_pure rfl (pure_not rfl) ?_
        | refine step_pure rfl (pure_extract rfl rfl) ?_
        | refine step_pure rfl (pure_max rfl rfl) ?_
        | refine step_pure rfl (pure_min rfl rfl) ?_
        | refine step_pure rfl (pure_ix rfl rfl rfl rfl rfl (by decide) (by decide) rfl) ?_
        | refine step_pure rfl (pure_assign rfl) ?_
        | refine step_nil ?_
        | refine c_seq ?_
        | refine c_region ?_
        | refine c_block ?_
      obtain ⟨u, hu, hul⟩ : ∃ u, u = (if n + 1 < 10 then rmC t 4 else t) ∧ u.length = 16 := ⟨_, rfl, by split; exact (rmC_len ..).trans htl; exact htl⟩
      refine c_meet [(4, .pointer (some ⟨bR, 0, none⟩)), (5, .pointer (some ⟨bO, 0, none⟩)), (6, .pointer (some ⟨bS, 0, none⟩)), (7, .int .i64 (n + 1)), (8, .pointer (some ⟨bT, 0, none⟩))]
        [⟨bT, row u, 22⟩, ⟨bS, row s, 22⟩, ⟨bO, row K, 25⟩, ⟨bR, row (zeros 16), 22⟩] ?_ ?_
      · refine c_cond rfl (fun h => ?_) (fun h => ?_)
        · have hn1 : n + 1 < 10 := by have := of_decide_eq_true h; omega
          rw [if_pos hn1] at hu
          clear h
          repeat first
            | refine step_pure rfl (pure_load_agg (i := 0) rfl rfl rfl rfl rfl (by simp only [row_len, htl]; decide) (ints_whole _ _ 16 htl)) ?_
            | refine step_alloc rfl zero22 (fun bU => ?_)
            | refine step_store_agg 0 rfl rfl rfl (row_one _) rfl (by rw [row_len]; exact htl) rfl rfl (by simp only [row_len, zeros_len]; decide) (splice_all (by simp only [row_len, zeros_len, htl])) ?_
            | refine step_pure rfl (pure_move rfl) ?_
            | refine step_pure rfl (pure_add64 rfl rfl (by omega) (by omega)) ?_
            | refine step_pure rfl (pure_sub64 rfl rfl (by omega) (by omega)) ?_
            | refine step_pure rfl (pure_mul64 rfl rfl (by omega) (by omega)) ?_
            | refine step_pure rfl (pure_rem_pos rfl rfl (by omega) (by decide)) ?_
            | refine step_pure rfl (pure_lss rfl rfl) ?_
            | refine step_pure rfl (pure_leq rfl rfl) ?_
            | refine step_pure rfl (pure_gtr rfl rfl) ?_
            | refine step_pure rfl (pure_geq rfl rfl) ?_
            | refine step_pure rfl (pure_eql rfl rfl) ?_
            | refine step_pure rfl (pure_neq rfl rfl) ?_
            | refine step_pure rfl (pure_xor rfl rfl) ?_
            | refine step_pure rfl (pure_and rfl rfl) ?_
            | refine step_pure rfl (pure_or rfl rfl) ?_
            | refine step_pure rfl (pure_shl rfl rfl (by decide)) ?_
            | refine step_pure rfl (pure_shr rfl rfl (by decide)) ?_
            | refine step_pure rfl (pure_conv rfl rfl rfl rfl) ?_
            | refine step_pure rfl (pure_nilCheck rfl) ?_
            | refine step_pure rfl (pure_not rfl) ?_
            | refine step_pure rfl (pure_extract rfl rfl) ?_
            | refine step_pure rfl (pure_max rfl rfl) ?_
            | refine step_pure rfl (pure_min rfl rfl) ?_
            | refine step_pure rfl (pure_ix rfl rfl rfl rfl rfl (by decide) (by decide) rfl) ?_
            | refine step_pure rfl (pure_assign rfl) ?_
            | refine step_nil ?_
            | refine c_seq ?_
            | refine c_region ?_
            | refine c_block ?_
          refine c_loop (α := Nat) (fun c => [(4, .pointer (some ⟨bR, 0, none⟩)), (5, .pointer (some ⟨bO, 0, none⟩)), (6, .pointer (some ⟨bS, 0, none⟩)), (7, .int .i64 (n + 1)), (8, .pointer (some ⟨bT, 0, none⟩)), (11, .pointer (some ⟨bU, 0, none⟩)), (12, .int .i64 c)])
            (fun c => [⟨bU, row (rmC t c), 22⟩, ⟨bT, row t, 22⟩, ⟨bS, row s, 22⟩, ⟨bO, row K, 25⟩, ⟨bR, row (zeros 16), 22⟩]) (fun c => c ≤ 4) (fun c => 4 - c) 0 (by decide) (less_of ⟨rfl, rfl, rfl, rfl, rfl, rfl, rfl, trivial⟩ rfl) ?_
          intro c hc
          have hcl := (rmC_len t c).trans htl
          repeat first
            | refine step_pure rfl (pure_move rfl) ?_
            | refine step_pure rfl (pure_add64 rfl rfl (by omega) (by omega)) ?_
            | refine step_pure rfl (pure_sub64 rfl rfl (by omega) (by omega)) ?_
            | refine step_pure rfl (pure_mul64 rfl rfl (by omega) (by omega)) ?_
            | refine step_pure rfl (pure_rem_pos rfl rfl (by omega) (by decide)) ?_
            | refine step_pure rfl (pure_lss rfl rfl) ?_
            | refine step_pure rfl (pure_leq rfl rfl) ?_
            | refine step_pure rfl (pure_gtr rfl rfl) ?_
            | refine step_pure rfl (pure_geq rfl rfl) ?_
            | refine step_pure rfl (pure_eql rfl rfl) ?_
            | refine step_pure rfl (pure_neq rfl rfl) ?_
            | refine step_pure rfl (pure_xor rfl rfl) ?_
            | refine step_pure rfl (pure_and rfl rfl) ?_
            | refine step_pure rfl (pure_or rfl rfl) ?_
            | refine step_pure rfl (pure_shl rfl rfl (by decide)) ?_
            | refine step_pure rfl (pure_shr rfl rfl (by decide)) ?_
            | refine step_pure rfl (pure_conv rfl rfl rfl rfl) ?_
            | refine step_pure rfl (pure_nilCheck rfl) ?_
            | refine step_pure rfl (pure_not rfl) ?_
            | refine step_pure rfl (pure_extract rfl rfl) ?_
            | refine step_pure rfl (pure_max rfl rfl) ?_
            | refine step_pure rfl (pure_min rfl rfl) ?_
            | refine step_pure rfl (pure_ix rfl rfl rfl rfl rfl (by decide) (by decide) rfl) ?_
            | refine step_pure rfl (pure_assign rfl) ?_
            | refine step_nil ?_
            | refine c_seq ?_
            | refine c_region ?_
            | refine c_block ?_
          refine c_cond rfl (fun h => ?_) (fun h => ?_)
          · have hlt4 : c < 4 := by have := of_decide_eq_true h; omega
            clear h
            refine c_skip ?_
            have hnc : rmC t (c + 1) = rmR t (rmC t c) c 4 := rfl
            generalize rmC t c = U at hcl hnc ⊢
            repeat first
              | refine step_pure rfl (pure_move rfl) ?_
              | refine step_pure rfl (pure_add64 rfl rfl (by omega) (by omega)) ?_
              | refine step_pure rfl (pure_sub64 rfl rfl (by omega) (by omega)) ?_
              | refine step_pure rfl (pure_mul64 rfl rfl (by omega) (by omega)) ?_
              | refine step_pure rfl (pure_rem_pos rfl rfl (by omega) (by decide)) ?_
              | refine step_pure rfl (pure_lss rfl rfl) ?_
              | refine step_pure rfl (pure_leq rfl rfl) ?_
              | refine step_pure rfl (pure_gtr rfl rfl) ?_
              | refine step_pure rfl (pure_geq rfl rfl) ?_
              | refine step_pure rfl (pure_eql rfl rfl) ?_
              | refine step_pure rfl (pure_neq rfl rfl) ?_
              | refine step_pure rfl (pure_xor rfl rfl) ?_
              | refine step_pure rfl (pure_and rfl rfl) ?_
              | refine step_pure rfl (pure_or rfl rfl) ?_
              | refine step_pure rfl (pure_shl rfl rfl (by decide)) ?_
              | refine step_pure rfl (pure_shr rfl rfl (by decide)) ?_
              | refine step_pure rfl (pure_conv rfl rfl rfl rfl) ?_
              | refine step_pure rfl (pure_nilCheck rfl) ?_
              | refine step_pure rfl (pure_not rfl) ?_
              | refine step_pure rfl (pure_extract rfl rfl) ?_
              | refine step_pure rfl (pure_max rfl rfl) ?_
              | refine step_pure rfl (pure_min rfl rfl) ?_
              | refine step_pure rfl (pure_ix rfl rfl rfl rfl rfl (by decide) (by decide) rfl) ?_
              | refine step_pure rfl (pure_assign rfl) ?_
              | refine step_nil ?_
              | refine c_seq ?_
              | refine c_region ?_
              | refine c_block ?_
            refine c_loop (α := Nat) (fun r => [(4, .pointer (some ⟨bR, 0, none⟩)), (5, .pointer (some ⟨bO, 0, none⟩)), (6, .pointer (some ⟨bS, 0, none⟩)), (7, .int .i64 (n + 1)), (8, .pointer (some ⟨bT, 0, none⟩)), (11, .pointer (some ⟨bU, 0, none⟩)), (12, .int .i64 c), (13, .int .i64 r)])
              (fun r => [⟨bU, row (rmR t U c r), 22⟩, ⟨bT, row t, 22⟩, ⟨bS, row s, 22⟩, ⟨bO, row K, 25⟩, ⟨bR, row (zeros 16), 22⟩]) (fun r => r ≤ 4) (fun r => 4 - r) 0 (by decide) (less_of ⟨rfl, rfl, rfl, rfl, rfl, rfl, rfl, rfl, trivial⟩ rfl) ?_
            intro r hr
            have hrl := (rmR_len t U c r).trans hcl
            repeat first
              | refine step_pure rfl (pure_move rfl) ?_
              | refine step_pure rfl (pure_add64 rfl rfl (by omega) (by omega)) ?_
              | refine step_pure rfl (pure_sub64 rfl rfl (by omega) (by omega)) ?_
              | refine step_pure rfl (pure_mul64 rfl rfl (by omega) (by omega)) ?_
              | refine step_pure rfl (pure_rem_pos rfl rfl (by omega) (by decide)) ?_
              | refine step_pure rfl (pure_lss rfl rfl) ?_
              | refine step_pure rfl (pure_leq rfl rfl) ?_
              | refine step_pure rfl (pure_gtr rfl rfl) ?_
              | refine step_pure rfl (pure_geq rfl rfl) ?_
              | refine step_pure rfl (pure_eql rfl rfl) ?_
              | refine step_pure rfl (pure_neq rfl rfl) ?_
              | refine step_pure rfl (pure_xor rfl rfl) ?_
              | refine step_pure rfl (pure_and rfl rfl) ?_
              | refine step_pure rfl (pure_or rfl rfl) ?_
              | refine step_pure rfl (pure_shl rfl rfl (by decide)) ?_
              | refine step_pure rfl (pure_shr rfl rfl (by decide)) ?_
              | refine step_pure rfl (pure_conv rfl rfl rfl rfl) ?_
              | refine step_pure rfl (pure_nilCheck rfl) ?_
              | refine step_pure rfl (pure_not rfl) ?_
              | refine step_pure rfl (pure_extract rfl rfl) ?_
              | refine step_pure rfl (pure_max rfl rfl) ?_
              | refine step_pure rfl (pure_min rfl rfl) ?_
              | refine step_pure rfl (pure_ix rfl rfl rfl rfl rfl (by decide) (by decide) rfl) ?_
              | refine step_pure rfl (pure_assign rfl) ?_
              | refine step_nil ?_
              | refine c_seq ?_
              | refine c_region ?_
              | refine c_block ?_
            refine c_cond rfl (fun h => ?_) (fun h => ?_)
            · have hr4 : r < 4 := by have := of_decide_eq_true h; omega
              clear h
              refine c_skip ?_
              repeat first
                | refine step_pure rfl (pure_move rfl) ?_
                | refine step_pure rfl (pure_add64 rfl rfl (by omega) (by omega)) ?_
                | refine step_pure rfl (pure_sub64 rfl rfl (by omega) (by omega)) ?_
                | refine step_pure rfl (pure_mul64 rfl rfl (by omega) (by omega)) ?_
                | refine step_pure rfl (pure_rem_pos rfl rfl (by omega) (by decide)) ?_
                | refine step_pure rfl (pure_lss rfl rfl) ?_
                | refine step_pure rfl (pure_leq rfl rfl) ?_
                | refine step_pure rfl (pure_gtr rfl rfl) ?_
                | refine step_pure rfl (pure_geq rfl rfl) ?_
                | refine step_pure rfl (pure_eql rfl rfl) ?_
                | refine step_pure rfl (pure_neq rfl rfl) ?_
                | refine step_pure rfl (pure_xor rfl rfl) ?_
                | refine step_pure rfl (pure_and rfl rfl) ?_
                | refine step_pure rfl (pure_or rfl rfl) ?_
                | refine step_pure rfl (pure_shl rfl rfl (by decide)) ?_
                | refine step_pure rfl (pure_shr rfl rfl (by decide)) ?_
                | refine step_pure rfl (pure_conv rfl rfl rfl rfl) ?_
                | refine step_pure rfl (pure_nilCheck rfl) ?_
                | refine step_pure rfl (pure_not rfl) ?_
                | refine step_pure rfl (pure_extract rfl rfl) ?_
                | refine step_pure rfl (pure_max rfl rfl) ?_
                | refine step_pure rfl (pure_min rfl rfl) ?_
                | refine step_pure rfl (pure_ix rfl rfl rfl rfl rfl (by decide) (by decide) rfl) ?_
                | refine step_pure rfl (pure_assign rfl) ?_
                | refine step_nil ?_
                | refine c_seq ?_
                | refine c_region ?_
                | refine c_block ?_
              refine d_region p10a follows (by kernel_rfl) ?_
              repeat first
                | refine d_pure0 rfl rfl rfl (pure_ix (off' := 4 * c + r) rfl rfl rfl rfl rfl (by omega) (by omega) (by show 0 + (4 * (c : Int) + r).toNat * 1 = _; omega)) ?_
                | refine d_pure0 rfl rfl rfl (pure_ix (off' := 4 * c + (r + 1) % 4) rfl rfl rfl rfl rfl (by omega) (by omega) (by show 0 + (4 * (c : Int) + ((r + 1 : Nat) : Int) % 4).toNat * 1 = _; omega)) ?_
                | refine d_pure0 rfl rfl rfl (pure_ix (off' := 4 * c + (r + 2) % 4) rfl rfl rfl rfl rfl (by omega) (by omega) (by show 0 + (4 * (c : Int) + ((r + 2 : Nat) : Int) % 4).toNat * 1 = _; omega)) ?_
                | refine d_pure0 rfl rfl rfl (pure_ix (off' := 4 * c + (r + 3) % 4) rfl rfl rfl rfl rfl (by omega) (by omega) (by show 0 + (4 * (c : Int) + ((r + 3 : Nat) : Int) % 4).toNat * 1 = _; omega)) ?_
                | refine d_pure1 rfl rfl rfl (pure_load (i := 1) rfl rfl rfl rfl rfl (row_get _ _ (by omega))) (SubMem.refl _) ?_
                | refine d_gives rfl rfl rfl fun20 rfl (fun w _ _ => times_any _ _ w) (SubMem.refl _) ?_
                | refine d_store 0 rfl rfl rfl rfl rfl rfl rfl rfl rfl rfl (by rw [row_len]; omega) (row_set _ _ _) rfl rfl ?_
                | refine d_pure0 rfl rfl rfl (pure_move rfl) ?_
                | refine d_pure0 rfl rfl rfl (pure_add64 rfl rfl (by omega) (by omega)) ?_
                | refine d_pure0 rfl rfl rfl (pure_sub64 rfl rfl (by omega) (by omega)) ?_
                | refine d_pure0 rfl rfl rfl (pure_mul64 rfl rfl (by omega) (by omega)) ?_
                | refine d_pure0 rfl rfl rfl (pure_rem_pos rfl rfl (by omega) (by decide)) ?_
                | refine d_pure0 rfl rfl rfl (pure_lss rfl rfl) ?_
                | refine d_pure0 rfl rfl rfl (pure_leq rfl rfl) ?_
                | refine d_pure0 rfl rfl rfl (pure_gtr rfl rfl) ?_
                | refine d_pure0 rfl rfl rfl (pure_geq rfl rfl) ?_
                | refine d_pure0 rfl rfl rfl (pure_eql rfl rfl) ?_
                | refine d_pure0 rfl rfl rfl (pure_neq rfl rfl) ?_
                | refine d_pure0 rfl rfl rfl (pure_xor rfl rfl) ?_
                | refine d_pure0 rfl rfl rfl (pure_and rfl rfl) ?_
                | refine d_pure0 rfl rfl rfl (pure_or rfl rfl) ?_
                | refine d_pure0 rfl rfl rfl (pure_shl rfl rfl (by decide)) ?_
                | refine d_pure0 rfl rfl rfl (pure_shr rfl rfl (by decide)) ?_
                | refine d_pure0 rfl rfl rfl (pure_conv rfl rfl rfl rfl) ?_
                | refine d_pure0 rfl rfl rfl (pure_nilCheck rfl) ?_
                | refine d_pure0 rfl rfl rfl (pure_not rfl) ?_
                | refine d_pure0 rfl rfl rfl (pure_extract rfl rfl) ?_
                | refine d_pure0 rfl rfl rfl (pure_max rfl rfl) ?_
                | refine d_pure0 rfl rfl rfl (pure_min rfl rfl) ?_
                | refine d_pure0 rfl rfl rfl (pure_ix rfl rfl rfl rfl rfl (by decide) (by decide) rfl) ?_
                | refine d_pure0 rfl rfl rfl (pure_assign rfl) ?_
                | refine d_nil ?_
              repeat first
                | refine step_pure rfl (pure_move rfl) ?_
                | refine step_pure rfl (pure_add64 rfl rfl (by omega) (by omega)) ?_
                | refine step_pure rfl (pure_sub64 rfl rfl (by omega) (by omega)) ?_
                | refine step_pure rfl (pure_mul64 rfl rfl (by omega) (by omega)) ?_
                | refine step_pure rfl (pure_rem_pos rfl rfl (by omega) (by decide)) ?_
                | refine step_pure rfl (pure_lss rfl rfl) ?_
                | refine step_pure rfl (pure_leq rfl rfl) ?_
                | refine step_pure rfl (pure_gtr rfl rfl) ?_
                | refine step_pure rfl (pure_geq rfl rfl) ?_
                | refine step_pure rfl (pure_eql rfl rfl) ?_
                | refine step_pure rfl (pure_neq rfl rfl) ?_
                | refine step_pure rfl (pure_xor rfl rfl) ?_
                | refine step_pure rfl (pure_and rfl rfl) ?_
                | refine step_pure rfl (pure_or rfl rfl) ?_
                | refine step_pure rfl (pure_shl rfl rfl (by decide)) ?_
                | refine step_pure rfl (pure_shr rfl rfl (by decide)) ?_
                | refine step_pure rfl (pure_conv rfl rfl rfl rfl) ?_
                | refine step_pure rfl (pure_nilCheck rfl) ?_
                | refine step_pure rfl (pure_not rfl) ?_
                | refine step_pure rfl (pure_extract rfl rfl) ?_
                | refine step_pure rfl (pure_max rfl rfl) ?_
                | refine step_pure rfl (pure_min rfl rfl) ?_
                | refine step_pure rfl (pure_ix rfl rfl rfl rfl rfl (by decide) (by decide) rfl) ?_
                | refine step_pure rfl (pure_assign rfl) ?_
                | refine step_nil ?_
                | refine c_seq ?_
                | refine c_region ?_
                | refine c_block ?_
              exact ⟨r + 1, hr4, by omega, less_of ⟨rfl, rfl, rfl, rfl, rfl, rfl, rfl, rfl, trivial⟩ rfl⟩
            · have hr4 : r = 4 := by have := of_decide_eq_false h; omega
              rw [hr4, ← hnc]
              refine c_exit ?_
              repeat first
                | refine step_pure rfl (pure_move rfl) ?_
                | refine step_pure rfl (pure_add64 rfl rfl (by omega) (by omega)) ?_
                | refine step_pure rfl (pure_sub64 rfl rfl (by omega) (by omega)) ?_
                | refine step_pure rfl (pure_mul64 rfl rfl (by omega) (by omega)) ?_
                | refine step_pure rfl (pure_rem_pos rfl rfl (by omega) (by decide)) ?_
                | refine step_pure rfl (pure_lss rfl rfl) ?_
                | refine step_pure rfl (pure_leq rfl rfl) ?_
                | refine step_pure rfl (pure_gtr rfl rfl) ?_
                | refine step_pure rfl (pure_geq rfl rfl) ?_
                | refine step_pure rfl (pure_eql rfl rfl) ?_
                | refine step_pure rfl (pure_neq rfl rfl) ?_
                | refine step_pure rfl (pure_xor rfl rfl) ?_
                | refine step_pure rfl (pure_and rfl rfl) ?_
                | refine step_pure rfl (pure_or rfl rfl) ?_
                | refine step_pure rfl (pure_shl rfl rfl (by decide)) ?_
                | refine step_pure rfl (pure_shr rfl rfl (by decide)) ?_
                | refine step_pure rfl (pure_conv rfl rfl rfl rfl) ?_
                | refine step_pure rfl (pure_nilCheck rfl) ?_
                | refine step_pure rfl (pure_not rfl) ?_
                | refine step_pure rfl (pure_extract rfl rfl) ?_
                | refine step_pure rfl (pure_max rfl rfl) ?_
                | refine step_pure rfl (pure_min rfl rfl) ?_
                | refine step_pure rfl (pure_ix rfl rfl rfl rfl rfl (by decide) (by decide) rfl) ?_
                | refine step_pure rfl (pure_assign rfl) ?_
                | refine step_nil ?_
                | refine c_seq ?_
                | refine c_region ?_
                | refine c_block ?_
              exact ⟨c + 1, hlt4, by omega, less_of ⟨rfl, rfl, rfl, rfl, rfl, rfl, rfl, trivial⟩ rfl⟩
          · have hc4 : c = 4 := by have := of_decide_eq_false h; omega
            rw [hc4] at hcl ⊢
            rw [← hu] at hcl ⊢
            refine c_exit ?_
            repeat first
              | refine step_pure rfl (pure_load_agg (i := 0) rfl rfl rfl rfl rfl (by simp only [row_len, hcl]; decide) (ints_whole _ _ 16 hcl)) ?_
              | refine step_store_agg 1 rfl rfl rfl (row_one _) rfl (by rw [row_len]; exact hcl) rfl rfl (by simp only [row_len, htl]; decide) (splice_all (by simp only [row_len, htl, hcl])) ?_
              | refine step_pure rfl (pure_move rfl) ?_
              | refine step_pure rfl (pure_add64 rfl rfl (by omega) (by omega)) ?_
              | refine step_pure rfl (pure_sub64 rfl rfl (by omega) (by omega)) ?_
              | refine step_pure rfl (pure_mul64 rfl rfl (by omega) (by omega)) ?_
              | refine step_pure rfl (pure_rem_pos rfl rfl (by omega) (by decide)) ?_
              | refine step_pure rfl (pure_lss rfl rfl) ?_
              | refine step_pure rfl (pure_leq rfl rfl) ?_
              | refine step_pure rfl (pure_gtr rfl rfl) ?_
              | refine step_pure rfl (pure_geq rfl rfl) ?_
              | refine step_pure rfl (pure_eql rfl rfl) ?_
              | refine step_pure rfl (pure_neq rfl rfl) ?_
              | refine step_pure rfl (pure_xor rfl rfl) ?_
              | refine step_pure rfl (pure_and rfl rfl) ?_
              | refine step_pure rfl (pure_or rfl rfl) ?_
              | refine step_pure rfl (pure_shl rfl rfl (by decide)) ?_
              | refine step_pure rfl (pure_shr rfl rfl (by decide)) ?_
              | refine step_pure rfl (pure_conv rfl rfl rfl rfl) ?_
              | refine step_pure rfl (pure_nilCheck rfl) ?_
              | refine step_pure rfl (pure_not rfl) ?_
              | refine step_pure rfl (pure_extract rfl rfl) ?_
              | refine step_pure rfl (pure_max rfl rfl) ?_
              | refine step_pure rfl (pure_min rfl rfl) ?_
              | refine step_pure rfl (pure_ix rfl rfl rfl rfl rfl (by decide) (by decide) rfl) ?_
              | refine step_pure rfl (pure_assign rfl) ?_
              | refine step_nil ?_
              | refine c_seq ?_
              | refine c_region ?_
              | refine c_block ?_
            exact ⟨look_all ⟨rfl, rfl, rfl, rfl, rfl, trivial⟩, fun _ h => h.2.2, fun _ h => h.2⟩
        · have hn1 : ¬ n + 1 < 10 := by have := of_decide_eq_false h; omega
          rw [if_neg hn1] at hu
          subst hu
          refine c_skip (less_of ⟨rfl, rfl, rfl, rfl, rfl, trivial⟩ rfl)
      refine d_region p10b follows (by kernel_rfl) ?_
      repeat first
        | refine d_pure0 rfl rfl rfl (pure_ix (off' := 16 * (n + 1)) rfl rfl rfl rfl rfl (by omega) (by omega) (by show 0 + ((n : Int) + 1).toNat * 16 = _; omega)) ?_
        | refine d_pure1 rfl rfl rfl (pure_load_agg (i := 0) rfl rfl rfl rfl rfl (by simp only [row_len, hul]; decide) (ints_whole _ _ 16 hul)) (SubMem.refl _) ?_
        | refine d_pure1 rfl rfl rfl (pure_load_agg (i := 2) rfl rfl rfl rfl rfl (by simp only [row_len, hKl]; show 16 * (n + 1) + 16 ≤ 176; omega) (ints_sub _ _ _ _)) (SubMem.refl _) ?_
        | refine d_gives rfl rfl rfl fun18 rfl (fun w _ _ => changed_any _ _ w hul (hsub (n + 1) (by omega))) (SubMem.refl _) ?_
        | refine d_store_agg 1 rfl rfl rfl rfl rfl (row_one _) rfl (by rw [row_len, chS_len]; exact hul) rfl rfl (by simp only [row_len, hBl]; decide) (splice_all (by simp only [row_len, chS_len, hul, hBl])) rfl rfl ?_
        | refine d_pure0 rfl rfl rfl (pure_move rfl) ?_
        | refine d_pure0 rfl rfl rfl (pure_add64 rfl rfl (by omega) (by omega)) ?_
        | refine d_pure0 rfl rfl rfl (pure_sub64 rfl rfl (by omega) (by omega)) ?_
        | refine d_pure0 rfl rfl rfl (pure_mul64 rfl rfl (by omega) (by omega)) ?_
        | refine d_pure0 rfl rfl rfl (pure_rem_pos rfl rfl (by omega) (by decide)) ?_
        | refine d_pure0 rfl rfl rfl (pure_lss rfl rfl) ?_
        | refine d_pure0 rfl rfl rfl (pure_leq rfl rfl) ?_
        | refine d_pure0 rfl rfl rfl (pure_gtr rfl rfl) ?_
        | refine d_pure0 rfl rfl rfl (pure_geq rfl rfl) ?_
        | refine d_pure0 rfl rfl rfl (pure_eql rfl rfl) ?_
        | refine d_pure0 rfl rfl rfl (pure_neq rfl rfl) ?_
        | refine d_pure0 rfl rfl rfl (pure_xor rfl rfl) ?_
        | refine d_pure0 rfl rfl rfl (pure_and rfl rfl) ?_
        | refine d_pure0 rfl rfl rfl (pure_or rfl rfl) ?_
        | refine d_pure0 rfl rfl rfl (pure_shl rfl rfl (by decide)) ?_
        | refine d_pure0 rfl rfl rfl (pure_shr rfl rfl (by decide)) ?_
        | refine d_pure0 rfl rfl rfl (pure_conv rfl rfl rfl rfl) ?_
        | refine d_pure0 rfl rfl rfl (pure_nilCheck rfl) ?_
        | refine d_pure0 rfl rfl rfl (pure_not rfl) ?_
        | refine d_pure0 rfl rfl rfl (pure_extract rfl rfl) ?_
        | refine d_pure0 rfl rfl rfl (pure_max rfl rfl) ?_
        | refine d_pure0 rfl rfl rfl (pure_min rfl rfl) ?_
        | refine d_pure0 rfl rfl rfl (pure_ix rfl rfl rfl rfl rfl (by decide) (by decide) rfl) ?_
        | refine d_pure0 rfl rfl rfl (pure_assign rfl) ?_
        | refine d_nil ?_
      repeat first
        | refine step_pure rfl (pure_move rfl) ?_
        | refine step_pure rfl (pure_add64 rfl rfl (by omega) (by omega)) ?_
        | refine step_pure rfl (pure_sub64 rfl rfl (by omega) (by omega)) ?_
        | refine step_pure rfl (pure_mul64 rfl rfl (by omega) (by omega)) ?_
        | refine step_pure rfl (pure_rem_pos rfl rfl (by omega) (by decide)) ?_
        | refine step_pure rfl (pure_lss rfl rfl) ?_
        | refine step_pure rfl (pure_leq rfl rfl) ?_
        | refine step_pure rfl (pure_gtr rfl rfl) ?_
        | refine step_pure rfl (pure_geq rfl rfl) ?_
        | refine step_pure rfl (pure_eql rfl rfl) ?_
        | refine step_pure rfl (pure_neq rfl rfl) ?_
        | refine step_pure rfl (pure_xor rfl rfl) ?_
        | refine step_pure rfl (pure_and rfl rfl) ?_
        | refine step_pure rfl (pure_or rfl rfl) ?_
        | refine step_pure rfl (pure_shl rfl rfl (by decide)) ?_
        | refine step_pure rfl (pure_shr rfl rfl (by decide)) ?_
        | refine step_pure rfl (pure_conv rfl rfl rfl rfl) ?_
        | refine step_pure rfl (pure_nilCheck rfl) ?_
        | refine step_pure rfl (pure_not rfl) ?_
        | refine step_pure rfl (pure_extract rfl rfl) ?_
        | refine step_pure rfl (pure_max rfl rfl) ?_
        | refine step_pure rfl (pure_min rfl rfl) ?_
        | refine step_pure rfl (pure_ix rfl rfl rfl rfl rfl (by decide) (by decide) rfl) ?_
        | refine step_pure rfl (pure_assign rfl) ?_
        | refine step_nil ?_
        | refine c_seq ?_
        | refine c_region ?_
        | refine c_block ?_
      refine ⟨n + 1, hlt, by omega, ?_⟩
      rw [hnext, hnx, ← hu]
      generalize chS u ((K.drop (16 * (n + 1))).take 16) 16 = X
      exact ⟨look_all ⟨rfl, rfl, rfl, rfl, trivial⟩, fun _ h => ⟨h.2.2.1, h.2.2.2.1, h.2.2.2.2⟩, fun _ h => h.2⟩
  · have hk10 : n = 10 := by have := of_decide_eq_false h; omega
    have hT : row (rblkF K b) = row (rblk K b n) := by rw [rblkF_is K b n hk10]
    rw [hT]
    have hl' : (row (rblk K b n)).length = 16 := by rw [row_len, hBl]
    have hone : ∀ v ∈ row (rblk K b n), v.oneCell' = true := row_one _
    generalize row (rblk K b n) = T at hl' hone ⊢
    clear h hT hk10 hBl hn
    refine c_exit ?_
    repeat first
      | refine step_pure rfl (pure_load_agg (i := 0) rfl rfl rfl rfl rfl (by rw [hl']; decide) (show _ = T from by rw [List.drop_zero, List.take_of_length_le (by rw [hl']; decide)])) ?_
      | refine step_pure rfl (pure_move rfl) ?_
      | refine step_pure rfl (pure_add64 rfl rfl (by omega) (by omega)) ?_
      | refine step_pure rfl (pure_sub64 rfl rfl (by omega) (by omega)) ?_
      | refine step_pure rfl (pure_mul64 rfl rfl (by omega) (by omega)) ?_
      | refine step_pure rfl (pure_rem_pos rfl rfl (by omega) (by decide)) ?_
      | refine step_pure rfl (pure_lss rfl rfl) ?_
      | refine step_pure rfl (pure_leq rfl rfl) ?_
      | refine step_pure rfl (pure_gtr rfl rfl) ?_
      | refine step_pure rfl (pure_geq rfl rfl) ?_
      | refine step_pure rfl (pure_eql rfl rfl) ?_
      | refine step_pure rfl (pure_neq rfl rfl) ?_
      | refine step_pure rfl (pure_xor rfl rfl) ?_
      | refine step_pure rfl (pure_and rfl rfl) ?_
      | refine step_pure rfl (pure_or rfl rfl) ?_
      | refine step_pure rfl (pure_shl rfl rfl (by decide)) ?_
      | refine step_pure rfl (pure_shr rfl rfl (by decide)) ?_
      | refine step_pure rfl (pure_conv rfl rfl rfl rfl) ?_
      | refine step_pure rfl (pure_nilCheck rfl) ?_
      | refine step_pure rfl (pure_not rfl) ?_
      | refine step_pure rfl (pure_extract rfl rfl) ?_
      | refine step_pure rfl (pure_max rfl rfl) ?_
      | refine step_pure rfl (pure_min rfl rfl) ?_
      | refine step_pure rfl (pure_ix rfl rfl rfl rfl rfl (by decide) (by decide) rfl) ?_
      | refine step_pure rfl (pure_assign rfl) ?_
      | refine step_nil ?_
      | refine c_seq ?_
      | refine c_region ?_
      | refine c_block ?_
    refine step_store_agg 2 rfl rfl rfl hone rfl hl' rfl rfl (by simp only [row_len, zeros_len]; decide) (splice_all (by rw [hl', row_len, zeros_len])) ?_
    refine step_nil (c_ret ⟨_, res_cell_agg (i := 2) Try.results10 rfl rfl rfl rfl rfl (by show 0 + 16 ≤ T.length; rw [hl']; decide) rfl, ?_⟩)
    show Value.agg ((T.drop 0).take 16).toArray = _
    rw [List.drop_zero, List.take_of_length_le (by rw [hl']; decide)]
end Go.Proofs.Ytgpjbfedbncniaa
