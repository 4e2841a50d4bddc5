import Derived.Test.YtgpjbfedbncniaaA2
namespace Go.Proofs.Ytgpjbfedbncniaa
open Go.RowKit Go.Vc
set_option linter.unusedVariables false

/-- Bytes changed by a round key, the first i of them. -/
def akS (K b : List Int) (n : Nat) : Nat → List Int
  | 0 => b
  | i + 1 => (akS K b n i).set i (xr ((akS K b n i).getD i 0) (K.getD (16 * n + i) 0))
/-- Bytes out of the table, moved. -/
def sbS (S b : List Int) : Nat → List Int
  | 0 => zeros 16
  | i + 1 => (sbS S b i).set i (S.getD (b.getD ((i + 4 * (i % 4)) % 16) 0).toNat 0)
def mixA (t : List Int) (c : Nat) : Int := xr (xr (xr (t.getD c 0) (t.getD (c + 1) 0)) (t.getD (c + 2) 0)) (t.getD (c + 3) 0)
def mix1 (t : List Int) (c : Nat) (b : List Int) : List Int :=
  (((b.set c (xr (xr (t.getD c 0) (mixA t c)) (dbl (xr (t.getD c 0) (t.getD (c + 1) 0))))).set (c + 1) (xr (xr (t.getD (c + 1) 0) (mixA t c)) (dbl (xr (t.getD (c + 1) 0) (t.getD (c + 2) 0))))).set (c + 2)
    (xr (xr (t.getD (c + 2) 0) (mixA t c)) (dbl (xr (t.getD (c + 2) 0) (t.getD (c + 3) 0))))).set (c + 3) (xr (xr (t.getD (c + 3) 0) (mixA t c)) (dbl (xr (t.getD (c + 3) 0) (t.getD c 0))))
def mcS (t b : List Int) : Nat → List Int
  | 0 => b
  | j + 1 => mix1 t (4 * j) (mcS t b j)
def rndS (S K b : List Int) (n : Nat) : List Int := akS K (if n < 10 then mcS (sbS S b 16) (sbS S b 16) 4 else sbS S b 16) n 16
def blkS (S K b : List Int) : Nat → List Int
  | 0 => akS K b 0 16
  | n + 1 => rndS S K (blkS S K b n) (n + 1)

theorem akS_len (K b : List Int) (n i : Nat) : (akS K b n i).length = b.length := by
  induction i with
  | zero => rfl
  | succ i ih => exact (List.length_set ..).trans ih
theorem sbS_len (S b : List Int) (i : Nat) : (sbS S b i).length = 16 := by
  induction i with
  | zero => exact zeros_len 16
  | succ i ih => exact (List.length_set ..).trans ih
theorem mix1_len (t : List Int) (c : Nat) (b : List Int) : (mix1 t c b).length = b.length := by simp [mix1]
theorem mcS_len (t b : List Int) (j : Nat) : (mcS t b j).length = b.length := by
  induction j with
  | zero => rfl
  | succ j ih => exact (mix1_len ..).trans ih
theorem rndS_len (S K b : List Int) (n : Nat) : (rndS S K b n).length = 16 := by
  unfold rndS
  rw [akS_len]
  split
  · rw [mcS_len, sbS_len]
  · rw [sbS_len]
theorem blkS_len (S K b : List Int) (h : b.length = 16) (n : Nat) : (blkS S K b n).length = 16 := by
  cases n with
  | zero => exact (akS_len ..).trans h
  | succ n => exact rndS_len ..
theorem akS_bytes (K b : List Int) (n i : Nat) (h : Bytes b) : Bytes (akS K b n i) := by
  induction i with
  | zero => exact h
  | succ i ih => exact ih.set _ (bits_byte _ _ _)
theorem sbS_bytes (S b : List Int) (h : Bytes S) (i : Nat) : Bytes (sbS S b i) := by
  induction i with
  | zero => exact Bytes.replicate 16
  | succ i ih => exact ih.set _ (h.at _)
theorem mcS_bytes (t b : List Int) (h : Bytes b) (j : Nat) : Bytes (mcS t b j) := by
  induction j with
  | zero => exact h
  | succ j ih => exact (((ih.set _ (bits_byte _ _ _)).set _ (bits_byte _ _ _)).set _ (bits_byte _ _ _)).set _ (bits_byte _ _ _)
theorem rndS_bytes (S K b : List Int) (h : Bytes S) (n : Nat) : Bytes (rndS S K b n) := by
  unfold rndS
  refine akS_bytes _ _ _ _ ?_
  split
  · exact mcS_bytes _ _ (sbS_bytes S b h 16) 4
  · exact sbS_bytes S b h 16
theorem blkS_bytes (S K b : List Int) (h : Bytes b) (hS : Bytes S) (n : Nat) : Bytes (blkS S K b n) := by
  cases n with
  | zero => exact akS_bytes _ _ _ _ h
  | succ n => exact rndS_bytes _ _ _ hS _

/-- A block. -/
def blkF (S K b : List Int) : List Int := blkS S K b 10
theorem blkF_len (S K b : List Int) (h : b.length = 16) : (blkF S K b).length = 16 := blkS_len S K b h 10
theorem blkF_bytes (S K b : List Int) (h : Bytes b) (hS : Bytes S) : Bytes (blkF S K b) := blkS_bytes S K b h hS 10
theorem blkF_is (S K b : List Int) (i : Nat) (h : i = 10) : blkF S K b = blkS S K b i := by rw [h]; rfl
attribute [irreducible] blkF
def p17a : List Nat := [1, 9, 19, 25, 33, 41, 49, 57, 67, 73, 81, 92]
def p17b : List Nat := [1, 9, 17, 25, 33, 41, 49, 57, 65, 75, 81, 89, 99, 105, 116]
def p17c : List Nat := [1, 9, 19, 25, 33, 41, 51, 57, 65, 73, 83, 89, 97, 105, 115, 121, 129, 137, 145]
def p17d : List Nat := [1, 9, 17, 25, 33, 41, 49, 57, 65, 73, 81, 89, 97, 107, 113, 121, 129, 137, 145, 153, 161, 171, 177, 185, 193, 201, 209, 217, 225, 235, 241, 249, 257, 265, 273, 281, 289, 299, 305, 313, 324, 329, 340, 345, 356, 361, 372]
def p17e : List Nat := [1, 9, 19, 25, 33, 41, 49, 57, 65, 75, 81, 89, 100]
set_option maxHeartbeats 1000000 in
theorem block_any (S K l : List Int) (bk bb : Nat) (w : World) (hl : l.length = 16) (hb : Bytes l) (hSb : Bytes S)
    (hK : ∀ i, i < 176 → w.cell? ⟨bk, i, none⟩ = some (.int .u8 (K.getD i 0))) (hS : ∀ i, i < 256 → w.cell? ⟨bb, i, none⟩ = some (.int .u8 (S.getD i 0))) :
    Gives tb 17 [.pointer (some ⟨bk, 0, none⟩), .pointer (some ⟨bb, 0, none⟩), .agg (row l).toArray] w (.agg (row (blkF S K l)).toArray) := by
  have hbk : bk ∉ ([] : List Nat) := by simp
  have hbb : bb ∉ ([] : List Nat) := by simp
  refine gives_of (fn := Try.f17) Try.func17 rfl Try.ntmps17 rfl ?_
  refine c_seq (c_region (step_box_agg rfl rfl (fun bB => step_alloc rfl zero22 (fun bR => ?_))))
  repeat first
    | refine step_pure rfl (pure_move rfl) ?_
    | refine step_nil ?_
    | refine c_seq ?_
    | refine c_region ?_
    | refine c_block ?_
  refine c_loop (α := Nat) (fun i => [(0, .pointer (some ⟨bk, 0, none⟩)), (1, .pointer (some ⟨bb, 0, none⟩)), (5, .pointer (some ⟨bB, 0, none⟩)), (6, .pointer (some ⟨bR, 0, none⟩)), (18, .int .i64 i)])
    (fun i => [⟨bR, row (zeros 16), 22⟩, ⟨bB, row (akS K l 0 i), 22⟩]) (fun i => i ≤ 16) (fun i => 16 - i) 0 (by decide) (less_regs ⟨rfl, rfl, rfl, rfl, rfl, trivial⟩) ?_
  intro i hi
  have hli := (akS_len K l 0 i).trans hl
  repeat first
    | refine step_pure rfl (pure_move rfl) ?_
    | refine step_pure rfl (pure_lss rfl rfl) ?_
    | refine step_nil ?_
    | refine c_seq ?_
    | refine c_region ?_
    | refine c_block ?_
  refine c_cond rfl (fun h => ?_) (fun h => ?_)
  · have hlt : i < 16 := by have := of_decide_eq_true h; omega
    clear h
    refine c_skip ?_
    repeat first
      | refine step_pure rfl (pure_move rfl) ?_
      | refine step_pure rfl (pure_assign rfl) ?_
      | refine step_nil ?_
      | refine c_seq ?_
      | refine c_region ?_
      | refine c_block ?_
    refine d_region p17a follows (by kernel_rfl) ?_
    repeat first
      | refine d_pure0 rfl rfl rfl (pure_move rfl) ?_
      | refine d_pure0 rfl rfl rfl (pure_nilCheck rfl) ?_
      | refine d_pure0 rfl rfl rfl (pure_xor rfl rfl) ?_
      | refine d_pure0 rfl rfl rfl (pure_ix rfl rfl rfl rfl rfl (by decide) (by decide) rfl) ?_
      | refine d_pure0 rfl rfl rfl (pure_ix (off' := i) rfl rfl rfl rfl rfl (by omega) (by omega) (by show 0 + (i : Int).toNat * 1 = _; omega)) ?_
      | refine d_pure0 rfl rfl rfl (pure_ix (off' := 16 * 0 + i) rfl rfl rfl rfl rfl (by omega) (by omega) (by show 0 + 0 * 16 + (i : Int).toNat * 1 = _; omega)) ?_
      | refine d_pure1 rfl rfl rfl (pure_load (i := 1) rfl rfl rfl rfl rfl (row_get _ _ (by omega))) (SubMem.refl _) ?_
      | refine d_pure1 rfl rfl rfl (pure_view rfl rfl rfl (hK _ (by omega)) hbk) (SubMem.refl _) ?_
    refine d_store 1 rfl rfl rfl rfl rfl rfl rfl rfl rfl rfl (by rw [row_len]; omega) (row_set _ _ _) rfl rfl ?_
    refine d_nil ?_
    repeat first
      | refine step_pure rfl (pure_move rfl) ?_
      | refine step_pure rfl (pure_add64 rfl rfl (by omega) (by omega)) ?_
      | refine step_nil ?_
      | refine c_seq ?_
      | refine c_region ?_
    refine ⟨i + 1, hlt, by omega, less_of ⟨rfl, rfl, rfl, rfl, rfl, trivial⟩ ?_⟩
    have hx : akS K l 0 (i + 1) = (akS K l 0 i).set i (xr ((akS K l 0 i).getD i 0) (K.getD i 0)) := by rw [show akS K l 0 (i + 1) = (akS K l 0 i).set i (xr ((akS K l 0 i).getD i 0) (K.getD (16 * 0 + i) 0)) from rfl, Nat.mul_zero, Nat.zero_add]
    rw [hx]; rfl
  · have hi16 : i = 16 := by have := of_decide_eq_false h; omega
    have hT : akS K l 0 i = blkS S K l 0 := by rw [hi16]; rfl
    rw [hT]
    clear h hT hi16 hli hi
    refine c_exit ?_
    repeat first
      | refine step_pure rfl (pure_move rfl) ?_
      | refine step_pure rfl (pure_assign rfl) ?_
      | refine step_nil ?_
      | refine c_seq ?_
      | refine c_region ?_
      | refine c_block ?_
    refine c_loop (α := Nat) (fun n => [(0, .pointer (some ⟨bk, 0, none⟩)), (1, .pointer (some ⟨bb, 0, none⟩)), (5, .pointer (some ⟨bB, 0, none⟩)), (6, .pointer (some ⟨bR, 0, none⟩)), (8, .int .i64 (n + 1))])
      (fun n => [⟨bR, row (zeros 16), 22⟩, ⟨bB, row (blkS S K l n), 22⟩]) (fun n => n ≤ 10) (fun n => 10 - n) 0 (by decide) (less_regs ⟨rfl, rfl, rfl, rfl, rfl, trivial⟩) ?_
    intro n hn
    have hBl := blkS_len S K l hl n
    have hBb := blkS_bytes S K l hb hSb n
    repeat first
      | refine step_pure rfl (pure_move rfl) ?_
      | refine step_pure rfl (pure_lss rfl rfl) ?_
      | refine step_nil ?_
      | refine c_seq ?_
      | refine c_region ?_
      | refine c_block ?_
    refine c_cond rfl (fun h => ?_) (fun h => ?_)
    · have hlt : n < 10 := by have := of_decide_eq_true h; omega
      clear h
      refine c_skip ?_
      have hnext : blkS S K l (n + 1) = rndS S K (blkS S K l n) (n + 1) := rfl
      generalize blkS S K l n = b at hBl hBb hnext ⊢
      repeat first
        | refine step_pure rfl (pure_move rfl) ?_
        | refine step_pure rfl (pure_assign rfl) ?_
        | refine step_alloc rfl zero22 (fun bT => ?_)
        | refine step_nil ?_
        | refine c_seq ?_
        | refine c_region ?_
        | refine c_block ?_
      refine c_loop (α := Nat) (fun i => [(0, .pointer (some ⟨bk, 0, none⟩)), (1, .pointer (some ⟨bb, 0, none⟩)), (5, .pointer (some ⟨bB, 0, none⟩)), (6, .pointer (some ⟨bR, 0, none⟩)), (8, .int .i64 (n + 1)), (9, .pointer (some ⟨bT, 0, none⟩)), (37, .int .i64 i)])
        (fun i => [⟨bT, row (sbS S b i), 22⟩, ⟨bR, row (zeros 16), 22⟩, ⟨bB, row b, 22⟩]) (fun i => i ≤ 16) (fun i => 16 - i) 0 (by decide) (less_regs ⟨rfl, rfl, rfl, rfl, rfl, rfl, rfl, trivial⟩) ?_
      intro i hi
      have hli := sbS_len S b i
      repeat first
        | refine step_pure rfl (pure_move rfl) ?_
        | refine step_pure rfl (pure_lss rfl rfl) ?_
        | refine step_nil ?_
        | refine c_seq ?_
        | refine c_region ?_
        | refine c_block ?_
      refine c_cond rfl (fun h => ?_) (fun h => ?_)
      · have hlt16 : i < 16 := by have := of_decide_eq_true h; omega
        clear h
        refine c_skip ?_
        repeat first
          | refine step_pure rfl (pure_move rfl) ?_
          | refine step_pure rfl (pure_assign rfl) ?_
          | refine step_nil ?_
          | refine c_seq ?_
          | refine c_region ?_
          | refine c_block ?_
        have hix := hBb.ix ((i + 4 * (i % 4)) % 16)
        refine d_region p17b follows (by kernel_rfl) ?_
        repeat first
          | refine d_pure0 rfl rfl rfl (pure_move rfl) ?_
          | refine d_pure0 rfl rfl rfl (pure_nilCheck rfl) ?_
          | refine d_pure0 rfl rfl rfl (pure_rem_pos rfl rfl (by omega) (by decide)) ?_
          | refine d_pure0 rfl rfl rfl (pure_mul64 rfl rfl (by omega) (by omega)) ?_
          | refine d_pure0 rfl rfl rfl (pure_add64 rfl rfl (by omega) (by omega)) ?_
          | refine d_pure0 rfl rfl rfl (pure_ix (off' := i) rfl rfl rfl rfl rfl (by omega) (by omega) (by show 0 + (i : Int).toNat * 1 = _; omega)) ?_
          | refine d_pure0 rfl rfl rfl (pure_ix (off' := (i + 4 * (i % 4)) % 16) rfl rfl rfl rfl rfl (by omega) (by omega) (by show 0 + (((i : Int) + 4 * ((i : Int) % 4)) % 16).toNat * 1 = _; omega)) ?_
          | refine d_pure0 rfl rfl rfl (pure_ix (off' := (b.getD ((i + 4 * (i % 4)) % 16) 0).toNat) rfl rfl rfl rfl rfl (hBb.at _).1 (hBb.at _).2 (by show 0 + _ * 1 = _; omega)) ?_
          | refine d_pure1 rfl rfl rfl (pure_load (i := 2) rfl rfl rfl rfl rfl (row_get _ _ (by omega))) (SubMem.refl _) ?_
          | refine d_pure1 rfl rfl rfl (pure_view rfl rfl rfl (hS _ (by omega)) hbb) (SubMem.refl _) ?_
        refine d_store 0 rfl rfl rfl rfl rfl rfl rfl rfl rfl rfl (by rw [row_len]; omega) (row_set _ _ _) rfl rfl ?_
        refine d_nil ?_
        repeat first
          | refine step_pure rfl (pure_move rfl) ?_
          | refine step_pure rfl (pure_add64 rfl rfl (by omega) (by omega)) ?_
          | refine step_nil ?_
          | refine c_seq ?_
          | refine c_region ?_
        exact ⟨i + 1, hlt16, by omega, less_of ⟨rfl, rfl, rfl, rfl, rfl, rfl, rfl, trivial⟩ rfl⟩
      · have hi16 : i = 16 := by have := of_decide_eq_false h; omega
        have hT : sbS S b i = sbS S b 16 := by rw [hi16]
        rw [hT]
        have htl := sbS_len S b 16
        have htb := sbS_bytes S b hSb 16
        have hnx : rndS S K b (n + 1) = akS K (if n + 1 < 10 then mcS (sbS S b 16) (sbS S b 16) 4 else sbS S b 16) (n + 1) 16 := rfl
        generalize sbS S b 16 = t at htl htb hnx ⊢
        clear h hT hi16 hli hi
        refine c_exit ?_
        repeat first
          | refine step_pure rfl (pure_move rfl) ?_
          | refine step_pure rfl (pure_assign rfl) ?_
          | refine step_pure rfl (pure_lss rfl rfl) ?_
          | refine step_pure rfl (pure_load_agg (i := 0) rfl rfl rfl rfl rfl (by simp only [row_len, htl]; decide) (ints_whole _ _ 16 htl)) ?_
          | refine step_store_agg 2 rfl rfl rfl (row_one _) rfl (by rw [row_len]; exact htl) rfl rfl (by simp only [row_len, hBl]; decide) (splice_all (by simp only [row_len, hBl, htl])) ?_
          | refine step_nil ?_
          | refine c_seq ?_
          | refine c_region ?_
          | refine c_block ?_
        have hB2 : ∃ u, u = (if n + 1 < 10 then mcS t t 4 else t) ∧ u.length = 16 ∧ Bytes u := ⟨_, rfl, by split; exact (mcS_len ..).trans htl; exact htl, by split; exact mcS_bytes _ _ htb _; exact htb⟩
        obtain ⟨u, hu, hul, hub⟩ := hB2
        refine c_meet [(0, .pointer (some ⟨bk, 0, none⟩)), (1, .pointer (some ⟨bb, 0, none⟩)), (5, .pointer (some ⟨bB, 0, none⟩)), (6, .pointer (some ⟨bR, 0, none⟩)), (8, .int .i64 (n + 1))]
          [⟨bT, row t, 22⟩, ⟨bR, row (zeros 16), 22⟩, ⟨bB, row u, 22⟩] ?_ ?_
        · refine c_cond rfl (fun h => ?_) (fun h => ?_)
          · have hn1 : n + 1 < 10 := by have := of_decide_eq_true h; omega
            rw [if_pos hn1] at hu
            clear h
            repeat first
              | refine step_pure rfl (pure_move rfl) ?_
              | refine step_pure rfl (pure_assign rfl) ?_
              | refine step_nil ?_
              | refine c_seq ?_
              | refine c_region ?_
              | refine c_block ?_
            refine c_loop (α := Nat) (fun j => [(0, .pointer (some ⟨bk, 0, none⟩)), (1, .pointer (some ⟨bb, 0, none⟩)), (5, .pointer (some ⟨bB, 0, none⟩)), (6, .pointer (some ⟨bR, 0, none⟩)), (8, .int .i64 (n + 1)), (9, .pointer (some ⟨bT, 0, none⟩)), (11, .int .i64 (4 * j))])
              (fun j => [⟨bT, row t, 22⟩, ⟨bR, row (zeros 16), 22⟩, ⟨bB, row (mcS t t j), 22⟩]) (fun j => j ≤ 4) (fun j => 4 - j) 0 (by decide) (less_of ⟨rfl, rfl, rfl, rfl, rfl, rfl, rfl, trivial⟩ rfl) ?_
            intro j hj
            have hml := (mcS_len t t j).trans htl
            repeat first
              | refine step_pure rfl (pure_move rfl) ?_
              | refine step_pure rfl (pure_lss rfl rfl) ?_
              | refine step_nil ?_
              | refine c_seq ?_
              | refine c_region ?_
              | refine c_block ?_
            refine c_cond rfl (fun h => ?_) (fun h => ?_)
            · have hj4 : j < 4 := by have := of_decide_eq_true h; omega
              clear h
              refine c_skip ?_
              repeat first
                | refine c_seq ?_
                | refine c_block ?_
              refine d_region p17c follows (by kernel_rfl) ?_
              repeat first
                | refine d_pure0 rfl rfl rfl (pure_move rfl) ?_
                | refine d_pure0 rfl rfl rfl (pure_assign rfl) ?_
                | refine d_pure0 rfl rfl rfl (pure_add64 rfl rfl (by omega) (by omega)) ?_
                | refine d_pure0 rfl rfl rfl (pure_ix (off' := 4 * j) rfl rfl rfl rfl rfl (by omega) (by omega) (by show 0 + (4 * (j : Int)).toNat * 1 = _; omega)) ?_
                | refine d_pure0 rfl rfl rfl (pure_ix (off' := 4 * j + 1) rfl rfl rfl rfl rfl (by omega) (by omega) (by show 0 + (4 * (j : Int) + 1).toNat * 1 = _; omega)) ?_
                | refine d_pure0 rfl rfl rfl (pure_ix (off' := 4 * j + 2) rfl rfl rfl rfl rfl (by omega) (by omega) (by show 0 + (4 * (j : Int) + 2).toNat * 1 = _; omega)) ?_
                | refine d_pure0 rfl rfl rfl (pure_ix (off' := 4 * j + 3) rfl rfl rfl rfl rfl (by omega) (by omega) (by show 0 + (4 * (j : Int) + 3).toNat * 1 = _; omega)) ?_
                | refine d_pure1 rfl rfl rfl (pure_load (i := 0) rfl rfl rfl rfl rfl (row_get _ _ (by omega))) (SubMem.refl _) ?_
              refine d_nil ?_
              repeat first
                | refine step_pure rfl (pure_move rfl) ?_
                | refine step_pure rfl (pure_xor rfl rfl) ?_
                | refine step_as rfl (pure_assign rfl) (show _ = Value.int .u8 (mixA t (4 * j)) from rfl) ?_
                | refine step_nil ?_
                | refine c_seq ?_
                | refine c_region ?_
              refine d_region p17d follows (by kernel_rfl) ?_
              repeat first
                | refine d_pure0 rfl rfl rfl (pure_move rfl) ?_
                | refine d_pure0 rfl rfl rfl (pure_xor rfl rfl) ?_
                | refine d_pure0 rfl rfl rfl (pure_add64 rfl rfl (by omega) (by omega)) ?_
                | refine d_pure0 rfl rfl rfl (pure_ix (off' := 4 * j) rfl rfl rfl rfl rfl (by omega) (by omega) (by show 0 + (4 * (j : Int)).toNat * 1 = _; omega)) ?_
                | refine d_pure0 rfl rfl rfl (pure_ix (off' := 4 * j + 1) rfl rfl rfl rfl rfl (by omega) (by omega) (by show 0 + (4 * (j : Int) + 1).toNat * 1 = _; omega)) ?_
                | refine d_pure0 rfl rfl rfl (pure_ix (off' := 4 * j + 2) rfl rfl rfl rfl rfl (by omega) (by omega) (by show 0 + (4 * (j : Int) + 2).toNat * 1 = _; omega)) ?_
                | refine d_pure0 rfl rfl rfl (pure_ix (off' := 4 * j + 3) rfl rfl rfl rfl rfl (by omega) (by omega) (by show 0 + (4 * (j : Int) + 3).toNat * 1 = _; omega)) ?_
                | refine d_gives rfl rfl rfl fun22 rfl (fun w _ _ => double_any _ w) (SubMem.refl _) ?_
                | refine d_store 2 rfl rfl rfl rfl rfl rfl rfl rfl rfl rfl (by simp only [row_len, List.length_set, hml]; omega) (row_set _ _ _) rfl rfl ?_
                | refine d_nil ?_
              repeat first
                | refine step_pure rfl (pure_move rfl) ?_
                | refine step_pure rfl (pure_add64 rfl rfl (by omega) (by omega)) ?_
                | refine step_pure rfl (pure_assign rfl) ?_
                | refine step_nil ?_
                | refine c_seq ?_
                | refine c_region ?_
              refine ⟨j + 1, hj4, by omega, less_of ⟨rfl, rfl, rfl, rfl, rfl, rfl, rfl, trivial⟩ rfl⟩
            · have hj4 : j = 4 := by have := of_decide_eq_false h; omega
              rw [hj4] at hml ⊢
              rw [← hu]
              exact c_exit (less_of ⟨rfl, rfl, rfl, rfl, rfl, trivial⟩ rfl)
          · have hn1 : ¬ n + 1 < 10 := by have := of_decide_eq_false h; omega
            rw [if_neg hn1] at hu
            subst hu
            refine c_skip (less_of ⟨rfl, rfl, rfl, rfl, rfl, trivial⟩ rfl)
        · repeat first
            | refine step_pure rfl (pure_move rfl) ?_
            | refine step_nil ?_
            | refine c_seq ?_
            | refine c_region ?_
            | refine c_block ?_
          refine c_loop (α := Nat) (fun i => [(0, .pointer (some ⟨bk, 0, none⟩)), (1, .pointer (some ⟨bb, 0, none⟩)), (5, .pointer (some ⟨bB, 0, none⟩)), (6, .pointer (some ⟨bR, 0, none⟩)), (8, .int .i64 (n + 1)), (127, .int .i64 i)])
            (fun i => [⟨bT, row t, 22⟩, ⟨bR, row (zeros 16), 22⟩, ⟨bB, row (akS K u (n + 1) i), 22⟩]) (fun i => i ≤ 16) (fun i => 16 - i) 0 (by decide) (less_regs ⟨rfl, rfl, rfl, rfl, rfl, rfl, trivial⟩) ?_
          intro i hi
          have hli := (akS_len K u (n + 1) i).trans hul
          repeat first
            | refine step_pure rfl (pure_move rfl) ?_
            | refine step_pure rfl (pure_lss rfl rfl) ?_
            | refine step_nil ?_
            | refine c_seq ?_
            | refine c_region ?_
            | refine c_block ?_
          refine c_cond rfl (fun h => ?_) (fun h => ?_)
          · have hlt16 : i < 16 := by have := of_decide_eq_true h; omega
            clear h
            refine c_skip ?_
            repeat first
              | refine step_pure rfl (pure_move rfl) ?_
              | refine step_pure rfl (pure_assign rfl) ?_
              | refine step_nil ?_
              | refine c_seq ?_
              | refine c_region ?_
              | refine c_block ?_
            refine d_region p17e follows (by kernel_rfl) ?_
            repeat first
              | refine d_pure0 rfl rfl rfl (pure_move rfl) ?_
              | refine d_pure0 rfl rfl rfl (pure_nilCheck rfl) ?_
              | refine d_pure0 rfl rfl rfl (pure_xor rfl rfl) ?_
              | refine d_pure0 rfl rfl rfl (pure_ix (off' := 16 * (n + 1)) rfl rfl rfl rfl rfl (by omega) (by omega) (by show 0 + ((n : Int) + 1).toNat * 16 = _; omega)) ?_
              | refine d_pure0 rfl rfl rfl (pure_ix (off' := i) rfl rfl rfl rfl rfl (by omega) (by omega) (by show 0 + (i : Int).toNat * 1 = _; omega)) ?_
              | refine d_pure0 rfl rfl rfl (pure_ix (off' := 16 * (n + 1) + i) rfl rfl rfl rfl rfl (by omega) (by omega) (by show 16 * (n + 1) + (i : Int).toNat * 1 = _; omega)) ?_
              | refine d_pure1 rfl rfl rfl (pure_load (i := 2) rfl rfl rfl rfl rfl (row_get _ _ (by omega))) (SubMem.refl _) ?_
              | refine d_pure1 rfl rfl rfl (pure_view rfl rfl rfl (hK _ (by omega)) hbk) (SubMem.refl _) ?_
            refine d_store 2 rfl rfl rfl rfl rfl rfl rfl rfl rfl rfl (by rw [row_len]; omega) (row_set _ _ _) rfl rfl ?_
            refine d_nil ?_
            repeat first
              | refine step_pure rfl (pure_move rfl) ?_
              | refine step_pure rfl (pure_add64 rfl rfl (by omega) (by omega)) ?_
              | refine step_nil ?_
              | refine c_seq ?_
              | refine c_region ?_
            exact ⟨i + 1, hlt16, by omega, less_of ⟨rfl, rfl, rfl, rfl, rfl, rfl, trivial⟩ rfl⟩
          · have hi16 : i = 16 := by have := of_decide_eq_false h; omega
            have hT : akS K u (n + 1) i = blkS S K l (n + 1) := by rw [hi16, hnext, hnx, hu]
            rw [hT]
            clear h hT hi16 hli hi
            refine c_exit ?_
            repeat first
              | refine step_pure rfl (pure_move rfl) ?_
              | refine step_pure rfl (pure_assign rfl) ?_
              | refine step_pure rfl (pure_add64 rfl rfl (by omega) (by omega)) ?_
              | refine step_nil ?_
              | refine c_seq ?_
              | refine c_region ?_
            exact ⟨n + 1, hlt, by omega, look_all ⟨rfl, rfl, rfl, rfl, rfl, trivial⟩, fun _ h => ⟨h.2.2.1, h.2.2.2.1, h.2.2.2.2⟩, fun _ h => h.2⟩
    · have hi10 : n = 10 := by have := of_decide_eq_false h; omega
      have hT : row (blkF S K l) = row (blkS S K l n) := by rw [blkF_is S K l n hi10]
      rw [hT]
      have hl' : (row (blkS S K l n)).length = 16 := by rw [row_len, hBl]
      have hone : ∀ v ∈ row (blkS S K l n), v.oneCell' = true := row_one _
      generalize row (blkS S K l n) = T at hl' hone ⊢
      clear h hT hi10 hBl hBb
      refine c_exit ?_
      repeat first
        | refine step_pure rfl (pure_load_agg (i := 1) rfl rfl rfl rfl rfl (by rw [hl']; decide) (show _ = T from by rw [List.drop_zero, List.take_of_length_le (by rw [hl']; decide)])) ?_
        | refine step_nil ?_
        | refine c_seq ?_
        | refine c_region ?_
      refine step_store_agg 0 rfl rfl rfl hone rfl hl' rfl rfl (by simp only [row_len, zeros_len]; decide) (splice_all (by rw [hl', row_len, zeros_len])) ?_
      refine step_nil (c_ret ⟨_, res_cell_agg (i := 0) Try.results17 rfl rfl rfl rfl rfl (by show 0 + 16 ≤ T.length; rw [hl']; decide) rfl, ?_⟩)
      show Value.agg ((T.drop 0).take 16).toArray = _
      rw [List.drop_zero, List.take_of_length_le (by rw [hl']; decide)]
end Go.Proofs.Ytgpjbfedbncniaa
