import Derived.Test.YtgpjbfedbncniaaA1
namespace Go.Proofs.Ytgpjbfedbncniaa
open Go.RowKit Go.Vc
set_option linter.unusedVariables false


/-- One column's byte of a round key. -/
def exC (i c : Nat) (s : List Int × List Int) : List Int × List Int :=
  (s.1.set (c % 4) (xr (s.1.getD (c % 4) 0) (s.2.getD (16 * i + c) 0)), s.2.set (16 * (i + 1) + c) (xr (s.1.getD (c % 4) 0) (s.2.getD (16 * i + c) 0)))
def exCs (i : Nat) (s : List Int × List Int) : Nat → List Int × List Int
  | 0 => s
  | c + 1 => exC i c (exCs i s c)
def exLast (S O : List Int) (i : Nat) (round : Int) : List Int :=
  [xr (S.getD (O.getD (16 * i + 13) 0).toNat 0) round, S.getD (O.getD (16 * i + 14) 0).toNat 0, S.getD (O.getD (16 * i + 15) 0).toNat 0, S.getD (O.getD (16 * i + 12) 0).toNat 0]
def exK (S key : List Int) : Nat → List Int × Int
  | 0 => (key ++ zeros 160, 1)
  | i + 1 => ((exCs i (exLast S (exK S key i).1 i (exK S key i).2, (exK S key i).1) 16).2, dbl (exK S key i).2)
theorem exC_len (i c : Nat) (s : List Int × List Int) : (exC i c s).1.length = s.1.length ∧ (exC i c s).2.length = s.2.length := by simp [exC]
theorem exCs_len (i : Nat) (s : List Int × List Int) (c : Nat) : (exCs i s c).1.length = s.1.length ∧ (exCs i s c).2.length = s.2.length := by
  induction c with
  | zero => exact ⟨rfl, rfl⟩
  | succ c ih => exact ⟨(exC_len i c _).1.trans ih.1, (exC_len i c _).2.trans ih.2⟩
theorem exK_succ (S key : List Int) (i : Nat) : exK S key (i + 1) = ((exCs i (exLast S (exK S key i).1 i (exK S key i).2, (exK S key i).1) 16).2, dbl (exK S key i).2) := rfl
theorem exK_len (S key : List Int) (h : key.length = 16) (i : Nat) : (exK S key i).1.length = 176 := by
  induction i with
  | zero => show (key ++ zeros 160).length = 176; rw [List.length_append, h, zeros_len]
  | succ i ih => rw [exK_succ, (exCs_len _ _ _).2]; exact ih
theorem exCs_bytes (i : Nat) (s : List Int × List Int) (c : Nat) (h : Bytes s.2) : Bytes (exCs i s c).2 := by
  induction c with
  | zero => exact h
  | succ c ih => exact ih.set _ (bits_byte _ _ _)
theorem exK_bytes (S key : List Int) (h : Bytes key) (i : Nat) : Bytes (exK S key i).1 := by
  induction i with
  | zero => exact h.append (Bytes.replicate 160)
  | succ i ih => rw [exK_succ]; exact exCs_bytes _ _ _ ih

/-- The round keys of a key, by a table. -/
def expF (S key : List Int) : List Int := (exK S key 10).1
theorem expF_len (S key : List Int) (h : key.length = 16) : (expF S key).length = 176 := exK_len S key h 10
theorem expF_bytes (S key : List Int) (h : Bytes key) : Bytes (expF S key) := exK_bytes S key h 10
theorem expF_is (S key : List Int) (i : Nat) (h : i = 10) : expF S key = (exK S key i).1 := by rw [h]; rfl
attribute [irreducible] expF
def p16a : List Nat := [1, 9, 17, 25, 35, 41, 49, 59, 65, 73, 81, 89, 97, 105, 115, 121, 129, 139, 145, 153, 161, 169, 179, 185, 193, 203, 209, 217, 225, 233, 243, 249, 257, 267, 273, 285, 292]
def p16b : List Nat := [1, 9, 17, 27, 33, 41, 49, 57, 67, 73, 81, 92]
def p16c : List Nat := [1, 9, 17, 25, 33, 43, 49, 57, 68]
set_option maxHeartbeats 1000000 in
theorem expanded_any (key S : List Int) (bb : Nat) (w : World) (hk : key.length = 16) (hb : Bytes key) (hS : ∀ i, i < 256 → w.cell? ⟨bb, i, none⟩ = some (.int .u8 (S.getD i 0))) :
    Gives tb 16 [.agg (row key).toArray, .pointer (some ⟨bb, 0, none⟩)] w (.agg (row (expF S key)).toArray) := by
  have hbb : bb ∉ ([] : List Nat) := by simp
  refine gives_of (fn := Try.f16) Try.func16 rfl Try.ntmps16 rfl ?_
  refine c_seq (c_region (step_box_agg rfl rfl (fun b => step_alloc rfl zero25 (fun bo => ?_))))
  repeat first
    | refine step_pure rfl (pure_load_agg (i := 1) rfl rfl rfl rfl rfl (by simp only [row_len, hk]; decide) (ints_whole _ _ 16 hk)) ?_
    | refine step_pure rfl (pure_ix rfl rfl rfl rfl rfl (by decide) (by decide) rfl) ?_
    | refine step_nil ?_
    | refine c_seq ?_
    | refine c_region ?_
  refine step_store_agg 0 rfl rfl rfl (row_one key) rfl (by rw [row_len]; exact hk) rfl rfl (by simp only [row_len, zeros_len]; decide)
    (show splice (row (zeros 176)) 0 (row key) = row (exK S key 0).1 from by rw [ints_splice]; unfold splice; rw [hk]; rfl) ?_
  repeat first
    | refine step_pure rfl (pure_assign rfl) ?_
    | refine step_nil ?_
    | refine c_seq ?_
    | refine c_region ?_
  refine c_block ?_
  refine c_loop (α := Nat) (fun i => [(1, .pointer (some ⟨bb, 0, none⟩)), (4, .pointer (some ⟨bo, 0, none⟩)), (5, .int .u8 (exK S key i).2), (6, .int .i64 (i + 1))])
    (fun i => [⟨bo, row (exK S key i).1, 25⟩]) (fun i => i ≤ 10) (fun i => 10 - i) 0 (by decide) (less_sub ⟨rfl, rfl, rfl, rfl, trivial⟩ (by repeat (first | exact List.Sublist.slnil | apply List.Sublist.cons_cons | apply List.Sublist.cons))) ?_
  intro i hi
  have hOl := exK_len S key hk i
  have hOb := exK_bytes S key hb i
  repeat first
    | refine step_pure rfl (pure_move rfl) ?_
    | refine step_pure rfl (pure_lss rfl rfl) ?_
    | refine step_nil ?_
    | refine c_seq ?_
    | refine c_region ?_
    | refine c_block ?_
  refine c_cond rfl (fun h => ?_) (fun h => ?_)
  · have hlt : i < 10 := by have := of_decide_eq_true h; omega
    clear h
    refine c_skip ?_
    repeat first
      | refine step_pure rfl (pure_move rfl) ?_
      | refine step_pure rfl (pure_sub64 rfl rfl (by omega) (by omega)) ?_
      | refine step_pure rfl (pure_ix (off' := 16 * i) rfl rfl rfl rfl rfl (by omega) (by omega) (by simp; omega)) ?_
      | refine step_pure rfl (pure_assign rfl) ?_
      | refine step_nil ?_
      | refine c_seq ?_
      | refine c_region ?_
      | refine c_block ?_
    refine d_region p16a follows (by kernel_rfl) ?_
    repeat first
      | refine d_pure0 rfl rfl rfl (pure_move rfl) ?_
      | refine d_pure0 rfl rfl rfl (pure_nilCheck rfl) ?_
      | refine d_pure0 rfl rfl rfl (pure_xor rfl rfl) ?_
      | refine d_pure0 rfl rfl rfl (pure_ix rfl rfl rfl rfl rfl (by decide) (by decide) rfl) ?_
      | refine d_pure0 rfl rfl rfl (pure_ix rfl rfl rfl rfl rfl (hOb.at _).1 (hOb.at _).2 rfl) ?_
      | refine d_pure1 rfl rfl rfl (pure_load (i := 0) rfl rfl rfl rfl rfl (row_get _ _ (by rw [hOl]; simp; omega))) (SubMem.refl _) ?_
      | refine d_pure1 rfl rfl rfl (pure_view rfl rfl rfl (hS _ (hOb.ix _)) hbb) (SubMem.refl _) ?_
      | refine d_as0 rfl rfl rfl (pure_build_arr rfl zero52 rfl rfl rfl rfl) (show _ = Value.agg (row (exLast S (exK S key i).1 i (exK S key i).2)).toArray from by simp [exLast, ints, zeros]) ?_
      | refine d_alloc rfl rfl rfl zero52 (SubMem.refl _) rfl (fun bl => ?_)
    refine d_store_agg 0 rfl rfl rfl rfl rfl (row_one _) rfl rfl rfl rfl (by simp only [row_len, zeros_len]; decide) (splice_all rfl) rfl rfl ?_
    refine d_nil ?_
    have hLl : (exLast S (exK S key i).1 i (exK S key i).2).length = 4 := rfl
    generalize hs0 : (exLast S (exK S key i).1 i (exK S key i).2, (exK S key i).1) = s0
    have h1 : exLast S (exK S key i).1 i (exK S key i).2 = s0.1 := by rw [← hs0]
    have h2 : (exK S key i).1 = s0.2 := by rw [← hs0]
    have hK : exK S key (i + 1) = ((exCs i s0 16).2, dbl (exK S key i).2) := by rw [exK_succ, hs0]
    rw [h1] at hLl ⊢
    rw [h2] at hOl hOb ⊢
    clear hs0 h1 h2
    repeat first
      | refine step_pure rfl (pure_move rfl) ?_
      | refine step_nil ?_
      | refine c_seq ?_
      | refine c_region ?_
      | refine c_block ?_
    refine c_loop (α := Nat) (fun c => [(1, .pointer (some ⟨bb, 0, none⟩)), (4, .pointer (some ⟨bo, 0, none⟩)), (5, .int .u8 (exK S key i).2), (6, .int .i64 (i + 1)), (7, .pointer (some ⟨bo, 16 * i, none⟩)), (8, .pointer (some ⟨bl, 0, none⟩)), (54, .int .i64 c)])
      (fun c => [⟨bl, row (exCs i s0 c).1, 52⟩, ⟨bo, row (exCs i s0 c).2, 25⟩]) (fun c => c ≤ 16) (fun c => 16 - c) 0 (by decide) (less_regs ⟨rfl, rfl, rfl, rfl, rfl, rfl, rfl, trivial⟩) ?_
    intro c hc
    have hl4 := (exCs_len i s0 c).1.trans hLl
    have hlO := (exCs_len i s0 c).2.trans hOl
    repeat first
      | refine step_pure rfl (pure_move rfl) ?_
      | refine step_pure rfl (pure_lss rfl rfl) ?_
      | refine step_nil ?_
      | refine c_seq ?_
      | refine c_region ?_
      | refine c_block ?_
    refine c_cond rfl (fun h => ?_) (fun h => ?_)
    · have hlt : c < 16 := by have := of_decide_eq_true h; omega
      clear h
      refine c_skip ?_
      generalize hsc : exCs i s0 c = s0c at hl4 hlO ⊢
      have hsc' : exCs i s0 (c + 1) = exC i c s0c := by rw [← hsc]; rfl
      repeat first
        | refine step_pure rfl (pure_move rfl) ?_
        | refine step_pure rfl (pure_assign rfl) ?_
        | refine step_nil ?_
        | refine c_seq ?_
        | refine c_region ?_
        | refine c_block ?_
      refine d_region p16b follows (by kernel_rfl) ?_
      repeat first
        | refine d_pure0 rfl rfl rfl (pure_move rfl) ?_
        | refine d_pure0 rfl rfl rfl (pure_nilCheck rfl) ?_
        | refine d_pure0 rfl rfl rfl (pure_rem_pos rfl rfl (by omega) (by decide)) ?_
        | refine d_as0 rfl rfl rfl (pure_xor rfl rfl) (show _ = Value.int .u8 (xr (s0c.1.getD (c % 4) 0) (s0c.2.getD (16 * i + c) 0)) from rfl) ?_
        | refine d_pure0 rfl rfl rfl (pure_ix (off' := c % 4) rfl rfl rfl rfl rfl (by omega) (by omega) (by show 0 + ((c : Int) % 4).toNat * 1 = _; omega)) ?_
        | refine d_pure0 rfl rfl rfl (pure_ix (off' := 16 * i + c) rfl rfl rfl rfl rfl (by omega) (by omega) (by show 16 * i + (c : Int).toNat * 1 = _; omega)) ?_
        | refine d_pure1 rfl rfl rfl (pure_load (i := 0) rfl rfl rfl rfl rfl (row_get _ _ (by omega))) (SubMem.refl _) ?_
        | refine d_pure1 rfl rfl rfl (pure_load (i := 1) rfl rfl rfl rfl rfl (row_get _ _ (by omega))) (SubMem.refl _) ?_
      refine d_store 0 rfl rfl rfl rfl rfl rfl rfl rfl rfl rfl (by rw [row_len]; omega) (row_set _ _ _) rfl rfl ?_
      refine d_nil ?_
      repeat first
        | refine step_nil ?_
        | refine c_seq ?_
        | refine c_region ?_
      refine d_region p16c follows (by kernel_rfl) ?_
      repeat first
        | refine d_pure0 rfl rfl rfl (pure_move rfl) ?_
        | refine d_pure0 rfl rfl rfl (pure_rem_pos rfl rfl (by omega) (by decide)) ?_
        | refine d_pure0 rfl rfl rfl (pure_ix (off' := c % 4) rfl rfl rfl rfl rfl (by omega) (by omega) (by show 0 + ((c : Int) % 4).toNat * 1 = _; omega)) ?_
        | refine d_pure0 rfl rfl rfl (pure_ix (off' := 16 * (i + 1)) rfl rfl rfl rfl rfl (by omega) (by omega) (by show 0 + ((i : Int) + 1).toNat * 16 = _; omega)) ?_
        | refine d_pure0 rfl rfl rfl (pure_ix (off' := 16 * (i + 1) + c) rfl rfl rfl rfl rfl (by omega) (by omega) (by show 16 * (i + 1) + (c : Int).toNat * 1 = _; omega)) ?_
        | refine d_as1 rfl rfl rfl (pure_load (i := 0) rfl rfl rfl rfl rfl (row_get _ _ (by rw [List.length_set]; omega))) (SubMem.refl _) (show _ = Value.int .u8 (xr (s0c.1.getD (c % 4) 0) (s0c.2.getD (16 * i + c) 0)) from by rw [getD_set_self _ _ _ (by omega)]) ?_
      refine d_store 1 rfl rfl rfl rfl rfl rfl rfl rfl rfl rfl (by rw [row_len]; omega) (row_set _ _ _) rfl rfl ?_
      refine d_nil ?_
      repeat first
        | refine step_pure rfl (pure_move rfl) ?_
        | refine step_pure rfl (pure_add64 rfl rfl (by omega) (by omega)) ?_
        | refine step_nil ?_
        | refine c_seq ?_
        | refine c_region ?_
      refine ⟨c + 1, hlt, by omega, less_of ⟨rfl, rfl, rfl, rfl, rfl, rfl, rfl, trivial⟩ ?_⟩
      rw [hsc']; rfl
    · have hc16 : c = 16 := by have := of_decide_eq_false h; omega
      subst hc16
      clear h
      refine c_exit ?_
      repeat first
        | refine step_pure rfl (pure_move rfl) ?_
        | refine step_pure rfl (pure_assign rfl) ?_
        | refine step_pure rfl (pure_add64 rfl rfl (by omega) (by omega)) ?_
        | refine step_gives rfl fun22 rfl (fun w _ _ => double_any _ w) ?_
        | refine step_nil ?_
        | refine c_seq ?_
        | refine c_region ?_
      refine ⟨i + 1, hlt, by omega, ⟨look_all ⟨rfl, rfl, ?_, rfl, trivial⟩, fun _ h => Has.sublist ?_ h, fun _ h => Own.sublist ?_ h⟩⟩
      · rw [hK]; rfl
      · rw [hK]; exact (by repeat (first | exact List.Sublist.slnil | apply List.Sublist.cons_cons | apply List.Sublist.cons))
      · rw [hK]; exact (by repeat (first | exact List.Sublist.slnil | apply List.Sublist.cons_cons | apply List.Sublist.cons))
  · have hi10 : i = 10 := by have := of_decide_eq_false h; omega
    have hT : row (expF S key) = row (exK S key i).1 := by rw [expF_is S key i hi10]
    rw [hT]
    have hl' : (row (exK S key i).1).length = 176 := by rw [row_len, hOl]
    have hone : ∀ v ∈ row (exK S key i).1, v.oneCell' = true := row_one _
    generalize row (exK S key i).1 = T at hl' hone ⊢
    clear h hT hi10
    refine c_exit ?_
    repeat first
      | refine step_pure rfl (pure_load_agg (i := 0) rfl rfl rfl rfl rfl (by rw [hl']; decide) (show _ = T from by rw [List.drop_zero, List.take_of_length_le (by rw [hl']; decide)])) ?_
      | refine step_nil ?_
      | refine c_seq ?_
      | refine c_region ?_
    refine step_store_agg 0 rfl rfl rfl hone rfl hl' rfl rfl (by rw [hl']; decide) (splice_all (hl'.trans hl'.symm)) ?_
    refine step_nil (c_ret ⟨_, res_cell_agg (i := 0) Try.results16 rfl rfl rfl rfl rfl (by show 0 + 176 ≤ T.length; rw [hl']; decide) rfl, ?_⟩)
    show Value.agg ((T.drop 0).take 176).toArray = _
    rw [List.drop_zero, List.take_of_length_le (by rw [hl']; decide)]
end Go.Proofs.Ytgpjbfedbncniaa
