import Derived.Test.YthieegnhjoehbaaAA
namespace Go.Proofs.Ythieegnhjoehbaa
open Go.RowKit Go.Vc
set_option linter.unusedVariables false
/-! the reference's product -/
def tmA (a b : Int) : Nat → Int
 | 0 => 0
 | i + 1 => if (bits .and .u8 (b / 2 ^ min (IntKind.u64.wrap i).toNat IntKind.u8.bits) 1 == 1) = true then bits .xor .i64 (tmA a b i) (IntKind.i64.wrap (IntKind.i64.wrap a * 2 ^ min (IntKind.u64.wrap i).toNat IntKind.i64.bits)) else tmA a b i
def tmB (n : Int) : Nat → Int
 | 0 => n
 | j + 1 => if (bits .and .i64 (tmB n j / 2 ^ min (IntKind.u64.wrap (15 - j)).toNat IntKind.i64.bits) 1 == 1) = true then bits .xor .i64 (tmB n j) (IntKind.i64.wrap (283 * 2 ^ min (IntKind.u64.wrap (15 - j - 8)).toNat IntKind.i64.bits)) else tmB n j
def tms (a b : Int) : Int := IntKind.u8.wrap (tmB (tmA a b 8) 8)
theorem u64_nat (x : Int) : 0 ≤ IntKind.u64.wrap x := by
 rw [IntKind.wrap_u64]; omega
set_option maxHeartbeats 1000000 in
theorem times_any (a b : Int) (w : World) : Gives tb 76 [.int .u8 a, .int .u8 b] w (.int .u8 (tms a b)) := by
 refine gives_of (fn := Try.f76) Try.func76 rfl Try.ntmps76 rfl ?_
 repeat first
  | refine qa rfl rfl ?_
  | refine step_nil ?_
  | refine c_seq ?_
  | refine c_region ?_
  | refine c_block ?_
 refine c_loop (α := Nat) (fun i => [(0, .int .u8 a), (1, .int .u8 b), (5, .int .i64 (tmA a b i)), (6, .int .i64 i)]) (fun _ => []) (fun i => i ≤ 8) (fun i => 8 - i) 0 (by decide) (less_regs ⟨rfl, rfl, rfl, rfl, trivial⟩) ?_
 intro i hi
 repeat first
  | refine qm rfl rfl ?_
  | refine step_pure rfl (pure_lss rfl rfl) ?_
  | refine step_nil ?_
  | refine c_seq ?_
  | refine c_region ?_
 refine c_cond rfl (fun h => ?_) (fun h => ?_)
 ·have hlt : i < 8 := by have := of_decide_eq_true h; omega
  clear h
  refine c_skip ?_
  repeat first
   | refine step_pure rfl (pure_shr rfl rfl (u64_nat _)) ?_
   | refine qm rfl rfl ?_
   | refine step_pure rfl (pure_eql rfl rfl) ?_
   | refine step_pure rfl (pure_and rfl rfl) ?_
   | refine step_pure rfl (pure_conv rfl rfl rfl rfl) ?_
   | refine step_nil ?_
   | refine c_seq ?_
   | refine c_region ?_
   | refine c_block ?_
  refine c_meet [(0, .int .u8 a), (1, .int .u8 b), (5, .int .i64 (tmA a b (i + 1))), (6, .int .i64 i)] [] ?_ ?_
  ·refine c_cond rfl (fun h => ?_) (fun h => ?_)
   ·have e : tmA a b (i + 1) = bits .xor .i64 (tmA a b i) (IntKind.i64.wrap (IntKind.i64.wrap a * 2 ^ min (IntKind.u64.wrap i).toNat IntKind.i64.bits)) := if_pos h
    rw [e]
    repeat first
     | refine step_pure rfl (pure_shl rfl rfl (u64_nat _)) ?_
     | refine qm rfl rfl ?_
     | refine step_pure rfl (pure_xor rfl rfl) ?_
     | refine step_pure rfl (pure_conv rfl rfl rfl rfl) ?_
     | refine qa rfl rfl ?_
     | refine step_nil ?_
     | refine c_region ?_
    exact less_regs ⟨rfl, rfl, rfl, rfl, trivial⟩
   ·have e : tmA a b (i + 1) = tmA a b i := if_neg (by rw [h]; decide)
    rw [e]
    exact c_skip (less_regs ⟨rfl, rfl, rfl, rfl, trivial⟩)
  repeat first
   | refine qm rfl rfl ?_
   | refine step_pure rfl (pure_add64 rfl rfl (by omega) (by omega)) ?_
   | refine qa rfl rfl ?_
   | refine step_nil ?_
   | refine c_region ?_
  exact ⟨i + 1, hlt, by omega, less_regs ⟨rfl, rfl, rfl, rfl, trivial⟩⟩
 ·have hi8 : i = 8 := by have := of_decide_eq_false h; omega
  rw [hi8]
  refine c_exit ?_
  repeat first
   | refine qa rfl rfl ?_
   | refine step_nil ?_
   | refine c_seq ?_
   | refine c_region ?_
   | refine c_block ?_
  refine c_loop (α := Nat) (fun j => [(5, .int .i64 (tmB (tmA a b 8) j)), (7, .int .i64 (15 - j))]) (fun _ => []) (fun j => j ≤ 8) (fun j => 8 - j) 0 (by decide) (less_regs ⟨rfl, rfl, trivial⟩) ?_
  intro j hj
  repeat first
   | refine qm rfl rfl ?_
   | refine step_pure rfl (pure_geq rfl rfl) ?_
   | refine step_nil ?_
   | refine c_seq ?_
   | refine c_region ?_
  refine c_cond rfl (fun h => ?_) (fun h => ?_)
  ·have hlt : j < 8 := by have := of_decide_eq_true h; omega
   clear h
   refine c_skip ?_
   repeat first
    | refine step_pure rfl (pure_shr rfl rfl (u64_nat _)) ?_
    | refine qm rfl rfl ?_
    | refine step_pure rfl (pure_eql rfl rfl) ?_
    | refine step_pure rfl (pure_and rfl rfl) ?_
    | refine step_pure rfl (pure_conv rfl rfl rfl rfl) ?_
    | refine step_nil ?_
    | refine c_seq ?_
    | refine c_region ?_
    | refine c_block ?_
   refine c_meet [(5, .int .i64 (tmB (tmA a b 8) (j + 1))), (7, .int .i64 (15 - j))] [] ?_ ?_
   ·refine c_cond rfl (fun h => ?_) (fun h => ?_)
    ·have e : tmB (tmA a b 8) (j + 1) = bits .xor .i64 (tmB (tmA a b 8) j) (IntKind.i64.wrap (283 * 2 ^ min (IntKind.u64.wrap (15 - j - 8)).toNat IntKind.i64.bits)) := if_pos h
     rw [e]
     repeat first
      | refine step_pure rfl (pure_shl rfl rfl (u64_nat _)) ?_
      | refine qm rfl rfl ?_
      | refine step_pure rfl (pure_sub64 rfl rfl (by omega) (by omega)) ?_
      | refine step_pure rfl (pure_xor rfl rfl) ?_
      | refine step_pure rfl (pure_conv rfl rfl rfl rfl) ?_
      | refine qa rfl rfl ?_
      | refine step_nil ?_
      | refine c_region ?_
     exact less_regs ⟨rfl, rfl, trivial⟩
    ·have e : tmB (tmA a b 8) (j + 1) = tmB (tmA a b 8) j := if_neg (by rw [h]; decide)
     rw [e]
     exact c_skip (less_regs ⟨rfl, rfl, trivial⟩)
   repeat first
    | refine qm rfl rfl ?_
    | refine step_pure rfl (pure_sub64 rfl rfl (by omega) (by omega)) ?_
    | refine qa rfl rfl ?_
    | refine step_nil ?_
    | refine c_region ?_
   refine ⟨j + 1, hlt, by omega, less_regs ⟨rfl, ?_, trivial⟩⟩
   show some (Value.int .i64 (15 - (j : Int) - 1)) = some (.int .i64 (15 - ((j + 1 : Nat) : Int)))
   congr 2; omega
  ·have hj8 : j = 8 := by have := of_decide_eq_false h; omega
   rw [hj8]
   refine c_exit ?_
   repeat first
    | refine qm rfl rfl ?_
    | refine step_pure rfl (pure_conv rfl rfl rfl rfl) ?_
    | refine qa rfl rfl ?_
    | refine step_nil ?_
    | refine c_seq ?_
    | refine c_region ?_
   exact c_ret ⟨_, res_tmp Try.results76 rfl, rfl⟩
/-! the reference's table -/
def ivA (a : Int) : Nat → Int × Int
 | 0 => (1, a)
 | i + 1 => (tms (ivA a i).1 (tms (ivA a i).2 (ivA a i).2), tms (ivA a i).2 (ivA a i).2)
def inv (a : Int) : Int := (ivA a 7).1
theorem inverse_any (a : Int) (w : World) : Gives tb 89 [.int .u8 a] w (.int .u8 (inv a)) := by
 refine gives_of (fn := Try.f89) Try.func89 rfl Try.ntmps89 rfl ?_
 repeat first
  | refine qm rfl rfl ?_
  | refine qa rfl rfl ?_
  | refine step_nil ?_
  | refine c_seq ?_
  | refine c_region ?_
  | refine c_block ?_
 refine c_loop (α := Nat) (fun i => [(3, .int .u8 (ivA a i).1), (4, .int .u8 (ivA a i).2), (5, .int .i64 (i + 1))]) (fun _ => []) (fun i => i ≤ 7) (fun i => 7 - i) 0 (by decide) (less_regs ⟨rfl, rfl, rfl, trivial⟩) ?_
 intro i hi
 repeat first
  | refine qm rfl rfl ?_
  | refine step_pure rfl (pure_lss rfl rfl) ?_
  | refine step_nil ?_
  | refine c_seq ?_
  | refine c_region ?_
 refine c_cond rfl (fun h => ?_) (fun h => ?_)
 ·have hlt : i < 7 := by have := of_decide_eq_true h; omega
  clear h
  refine c_skip ?_
  repeat first
   | refine step_gives rfl fun76 rfl (fun w _ _ => times_any _ _ w) ?_
   | refine qm rfl rfl ?_
   | refine step_pure rfl (pure_add64 rfl rfl (by omega) (by omega)) ?_
   | refine qa rfl rfl ?_
   | refine step_nil ?_
   | refine c_seq ?_
   | refine c_region ?_
   | refine c_block ?_
  exact ⟨i + 1, hlt, by omega, less_regs ⟨rfl, rfl, rfl, trivial⟩⟩
 ·have hi7 : i = 7 := by have := of_decide_eq_false h; omega
  have e : (ivA a i).1 = inv a := by rw [hi7]; rfl
  rw [e]
  refine c_exit ?_
  repeat first
   | refine qm rfl rfl ?_
   | refine qa rfl rfl ?_
   | refine step_nil ?_
   | refine c_seq ?_
   | refine c_region ?_
  exact c_ret ⟨_, res_tmp Try.results89 rfl, rfl⟩
def rbA (x : Int) : Nat → Int × Int
 | 0 => (x, xr x 99)
 | i + 1 => (orr (sl (rbA x i).1 1) (sr (rbA x i).1 7), xr (rbA x i).2 (orr (sl (rbA x i).1 1) (sr (rbA x i).1 7)))
def rbox (a : Int) : Int := (rbA (inv a) 4).2
theorem rbox_any (a : Int) (w : World) : Gives tb 75 [.int .u8 a] w (.int .u8 (rbox a)) := by
 refine gives_of (fn := Try.f75) Try.func75 rfl Try.ntmps75 rfl ?_
 repeat first
  | refine step_gives rfl fun89 rfl (fun w _ _ => inverse_any _ w) ?_
  | refine qm rfl rfl ?_
  | refine step_pure rfl (pure_xor rfl rfl) ?_
  | refine qa rfl rfl ?_
  | refine step_nil ?_
  | refine c_seq ?_
  | refine c_region ?_
  | refine c_block ?_
 refine c_loop (α := Nat) (fun i => [(3, .int .u8 (rbA (inv a) i).1), (4, .int .u8 (rbA (inv a) i).2), (5, .int .i64 i)]) (fun _ => []) (fun i => i ≤ 4) (fun i => 4 - i) 0 (by decide) (less_regs ⟨rfl, rfl, rfl, trivial⟩) ?_
 intro i hi
 repeat first
  | refine qm rfl rfl ?_
  | refine step_pure rfl (pure_lss rfl rfl) ?_
  | refine step_nil ?_
  | refine c_seq ?_
  | refine c_region ?_
 refine c_cond rfl (fun h => ?_) (fun h => ?_)
 ·have hlt : i < 4 := by have := of_decide_eq_true h; omega
  clear h
  refine c_skip ?_
  repeat first
   | refine qm rfl rfl ?_
   | refine step_pure rfl (pure_add64 rfl rfl (by omega) (by omega)) ?_
   | refine step_pure rfl (pure_xor rfl rfl) ?_
   | refine step_pure rfl (pure_or rfl rfl) ?_
   | refine step_pure rfl (pure_shl rfl rfl (by decide)) ?_
   | refine step_pure rfl (pure_shr rfl rfl (by decide)) ?_
   | refine qa rfl rfl ?_
   | refine step_nil ?_
   | refine c_seq ?_
   | refine c_region ?_
   | refine c_block ?_
  exact ⟨i + 1, hlt, by omega, less_regs ⟨rfl, rfl, rfl, trivial⟩⟩
 ·have hi7 : i = 4 := by have := of_decide_eq_false h; omega
  have e : (rbA (inv a) i).2 = rbox a := by rw [hi7]; rfl
  rw [e]
  refine c_exit ?_
  repeat first
   | refine qm rfl rfl ?_
   | refine qa rfl rfl ?_
   | refine step_nil ?_
   | refine c_seq ?_
   | refine c_region ?_
  exact c_ret ⟨_, res_tmp Try.results75 rfl, rfl⟩
end Go.Proofs.Ythieegnhjoehbaa
namespace Go.Proofs.Ythieegnhjoehbaa
open Go.RowKit Go.Vc
set_option linter.unusedVariables false
/-! the reference's keys and block -/
def chS (a b : List Int) : Nat → List Int
 | 0 => a
 | i + 1 => (chS a b i).set i (xr ((chS a b i).getD i 0) (b.getD i 0))
theorem chS_len (a b : List Int) (i : Nat) : (chS a b i).length = a.length := by
 induction i with
 | zero => rfl
 | succ i ih => exact (List.length_set ..).trans ih
def p18a : List Nat := [1, 9, 17, 27, 33, 41, 51, 57, 65, 76]
set_option maxHeartbeats 1000000 in
theorem changed_any (a b : List Int) (w : World) (ha : a.length = 16) (hb : b.length = 16) :
  Gives tb 74 [.agg (row a).toArray, .agg (row b).toArray] w (.agg (row (chS a b 16)).toArray) := by
 refine gives_of (fn := Try.f74) Try.func74 rfl Try.ntmps74 rfl ?_
 refine c_seq (c_region (step_box_agg rfl rfl (fun bA => step_box_agg rfl rfl (fun bB => step_alloc rfl zero28 (fun bR => ?_)))))
 repeat first
  | refine qa rfl rfl ?_
  | refine step_nil ?_
  | refine c_seq ?_
  | refine c_region ?_
  | refine c_block ?_
 refine c_loop (α := Nat) (fun i => [(2, .pointer (some ⟨bA, 0, none⟩)), (3, .pointer (some ⟨bB, 0, none⟩)), (4, .pointer (some ⟨bR, 0, none⟩)), (5, .int .i64 i)])
  (fun i => [⟨bR, row (zeros 16), 28⟩, ⟨bB, row b, 28⟩, ⟨bA, row (chS a b i), 28⟩]) (fun i => i ≤ 16) (fun i => 16 - i) 0 (by decide) (less_regs ⟨rfl, rfl, rfl, rfl, trivial⟩) ?_
 intro i hi
 have hli := (chS_len a b i).trans ha
 repeat first
  | refine qm rfl rfl ?_
  | refine step_pure rfl (pure_lss rfl rfl) ?_
  | refine step_nil ?_
  | refine c_seq ?_
  | refine c_region ?_
 refine c_cond rfl (fun h => ?_) (fun h => ?_)
 ·have hlt : i < 16 := by have := of_decide_eq_true h; omega
  clear h
  refine c_skip ?_
  repeat first
   | refine c_seq ?_
   | refine c_block ?_
  refine d_region p18a follows (by kernel_rfl) ?_
  repeat first
   | refine d_pure0 rfl rfl rfl (pure_ix (off' := i) rfl rfl rfl rfl rfl (by omega) (by omega) (by show 0 + (i : Int).toNat * 1 = _; omega)) ?_
   | refine d_pure1 rfl rfl rfl (pure_load (i := 2) rfl rfl rfl rfl rfl (row_get _ _ (by omega))) (SubMem.refl _) ?_
   | refine d_pure1 rfl rfl rfl (pure_load (i := 1) rfl rfl rfl rfl rfl (row_get _ _ (by omega))) (SubMem.refl _) ?_
   | refine d_store 2 rfl rfl rfl rfl rfl rfl rfl rfl rfl rfl (by rw [row_len]; omega) (row_set _ _ _) rfl rfl ?_
   | refine qd rfl rfl rfl rfl ?_
   | refine d_pure0 rfl rfl rfl (pure_xor rfl rfl) ?_
   | refine d_nil ?_
  repeat first
   | refine qm rfl rfl ?_
   | refine step_pure rfl (pure_add64 rfl rfl (by omega) (by omega)) ?_
   | refine qa rfl rfl ?_
   | refine step_nil ?_
   | refine c_region ?_
  exact ⟨i + 1, hlt, by omega, less_of ⟨rfl, rfl, rfl, rfl, trivial⟩ rfl⟩
 ·have hi16 : i = 16 := by have := of_decide_eq_false h; omega
  have hT : row (chS a b 16) = row (chS a b i) := by rw [hi16]
  rw [hT]
  have hl' : (row (chS a b i)).length = 16 := by rw [row_len, hli]
  have hone : ∀ v ∈ row (chS a b i), v.oneCell' = true := row_one _
  generalize row (chS a b i) = T at hl' hone ⊢
  clear h hT hi16 hli hi
  refine c_exit ?_
  repeat first
   | refine step_pure rfl (pure_load_agg (i := 2) rfl rfl rfl rfl rfl (by rw [hl']; decide) (show _ = T from by rw [List.drop_zero, List.take_of_length_le (by rw [hl']; decide)])) ?_
   | refine c_seq ?_
   | refine c_region ?_
  refine step_store_agg 0 rfl rfl rfl hone rfl hl' rfl rfl (by simp only [row_len, zeros_len]; decide) (splice_all (by rw [hl', row_len, zeros_len])) ?_
  refine step_nil (c_ret ⟨_, res_cell_agg (i := 0) Try.results74 rfl rfl rfl rfl rfl (by show 0 + 16 ≤ T.length; rw [hl']; decide) rfl, ?_⟩)
  show Value.agg ((T.drop 0).take 16).toArray = _
  rw [List.drop_zero, List.take_of_length_le (by rw [hl']; decide)]
def rkA1 (W O : List Int) (k c : Nat) : Int := if c < 4 then rbox (W.getD (12 + (c + 1) % 4) 0) else O.getD (16 * (k + 1) + (c - 4)) 0
def rkA2 (W O : List Int) (k c : Nat) (round : Int) : Int := if c = 0 then xr (rkA1 W O k c) round else rkA1 W O k c
def rkC (W O : List Int) (k : Nat) (round : Int) : Nat → List Int
 | 0 => O
 | c + 1 => (rkC W O k round c).set (16 * (k + 1) + c) (xr (W.getD c 0) (rkA2 W (rkC W O k round c) k c round))
def rkK (key : List Int) : Nat → List Int × Int
 | 0 => (key ++ zeros 160, 1)
 | k + 1 => (rkC (((rkK key k).1.drop (16 * k)).take 16) (rkK key k).1 k (rkK key k).2 16, tms (rkK key k).2 2)
theorem rkC_len (W O : List Int) (k : Nat) (round : Int) (c : Nat) : (rkC W O k round c).length = O.length := by
 induction c with
 | zero => rfl
 | succ c ih => exact (List.length_set ..).trans ih
theorem rkK_succ (key : List Int) (k : Nat) : rkK key (k + 1) = (rkC (((rkK key k).1.drop (16 * k)).take 16) (rkK key k).1 k (rkK key k).2 16, tms (rkK key k).2 2) := rfl
theorem rkK_len (key : List Int) (h : key.length = 16) (k : Nat) : (rkK key k).1.length = 176 := by
 induction k with
 | zero => show (key ++ zeros 160).length = 176; rw [List.length_append, h, zeros_len]
 | succ k ih => rw [rkK_succ, rkC_len]; exact ih
def rkF (key : List Int) : List Int := (rkK key 10).1
theorem rkF_len (key : List Int) (h : key.length = 16) : (rkF key).length = 176 := rkK_len key h 10
theorem rkF_is (key : List Int) (i : Nat) (h : i = 10) : rkF key = (rkK key i).1 := by rw [h]; rfl
attribute [irreducible] rkF
def p12a : List Nat := [1, 9, 17, 25, 35, 41, 49, 57, 65, 76]
set_option maxHeartbeats 1000000 in
theorem rkeys_any (key : List Int) (w : World) (hk : key.length = 16) : Gives tb 73 [.agg (row key).toArray] w (.agg (row (rkF key)).toArray) := by
 refine gives_of (fn := Try.f73) Try.func73 rfl Try.ntmps73 rfl ?_
 refine c_seq (c_region (step_box_agg rfl rfl (fun bK => step_alloc rfl zero124 (fun bR => ?_))))
 repeat first
  | refine step_pure rfl (pure_build_arr rfl zero124 rfl rfl rfl rfl) ?_
  | refine step_alloc rfl zero124 (fun bO => ?_)
  | refine step_store_agg 0 rfl rfl rfl (row_one _) rfl (by rw [row_len, zeros_len]) rfl rfl (by simp only [row_len, zeros_len]; decide) (splice_all rfl) ?_
  | refine step_pure rfl (pure_load_agg (i := 2) rfl rfl rfl rfl rfl (by simp only [row_len, hk]; decide) (ints_whole _ _ 16 hk)) ?_
  | refine step_store_agg 0 rfl rfl rfl (row_one key) rfl (by rw [row_len]; exact hk) rfl rfl (by simp only [row_len, zeros_len]; decide) (show splice (row (zeros 176)) 0 (row key) = row (rkK key 0).1 from by rw [ints_splice]; unfold splice; rw [hk]; rfl) ?_
  | refine step_pure rfl (pure_ix rfl rfl rfl rfl rfl (by decide) (by decide) rfl) ?_
  | refine qa rfl rfl ?_
  | refine step_nil ?_
  | refine c_seq ?_
  | refine c_region ?_
  | refine c_block ?_
 refine c_loop (α := Nat) (fun k => [(2, .pointer (some ⟨bR, 0, none⟩)), (3, .pointer (some ⟨bO, 0, none⟩)), (4, .int .u8 (rkK key k).2), (5, .int .i64 (k + 1))])
  (fun k => [⟨bO, row (rkK key k).1, 124⟩, ⟨bR, row (zeros 176), 124⟩]) (fun k => k ≤ 10) (fun k => 10 - k) 0 (by decide) (less_sub ⟨rfl, rfl, rfl, rfl, trivial⟩ (by repeat (first | exact List.Sublist.slnil | apply List.Sublist.cons_cons | apply List.Sublist.cons))) ?_
 intro k hkk
 have hOl := rkK_len key hk k
 repeat first
  | refine qm rfl rfl ?_
  | refine step_pure rfl (pure_lss rfl rfl) ?_
  | refine step_nil ?_
  | refine c_seq ?_
  | refine c_region ?_
 refine c_cond rfl (fun h => ?_) (fun h => ?_)
 ·have hlt : k < 10 := by have := of_decide_eq_true h; omega
  clear h
  refine c_skip ?_
  have hnext := rkK_succ key k
  generalize (rkK key k).1 = O at hOl hnext ⊢
  generalize (rkK key k).2 = round at hnext ⊢
  have hWl : ((O.drop (16 * k)).take 16).length = 16 := by rw [List.length_take, List.length_drop, hOl]; omega
  repeat first
   | refine step_pure rfl (pure_ix (off' := 16 * k) rfl rfl rfl rfl rfl (by omega) (by omega) (by show 0 + ((k : Int) + 1 - 1).toNat * 16 = _; omega)) ?_
   | refine step_pure rfl (pure_load_agg (i := 0) rfl rfl rfl rfl rfl (by simp only [row_len, hOl]; show 16 * k + 16 ≤ 176; omega) (ints_sub _ _ _ _)) ?_
   | refine step_alloc rfl zero28 (fun bW => ?_)
   | refine step_store_agg 0 rfl rfl rfl (ints_one _ _) rfl (by rw [ints_len]; exact hWl) rfl rfl (by simp only [row_len, zeros_len]; decide) (splice_all (by simp only [ints_len, zeros_len]; exact hWl)) ?_
   | refine qm rfl rfl ?_
   | refine step_pure rfl (pure_sub64 rfl rfl (by omega) (by omega)) ?_
   | refine qa rfl rfl ?_
   | refine step_nil ?_
   | refine c_seq ?_
   | refine c_region ?_
   | refine c_block ?_
  generalize (O.drop (16 * k)).take 16 = W at hWl hnext
  refine c_loop (α := Nat) (fun c => [(2, .pointer (some ⟨bR, 0, none⟩)), (3, .pointer (some ⟨bO, 0, none⟩)), (4, .int .u8 round), (5, .int .i64 (k + 1)), (6, .pointer (some ⟨bW, 0, none⟩)), (7, .int .i64 c)])
   (fun c => [⟨bW, row W, 28⟩, ⟨bO, row (rkC W O k round c), 124⟩, ⟨bR, row (zeros 176), 124⟩]) (fun c => c ≤ 16) (fun c => 16 - c) 0 (by decide) (less_of ⟨rfl, rfl, rfl, rfl, rfl, rfl, trivial⟩ rfl) ?_
  intro c hc
  have hCl := (rkC_len W O k round c).trans hOl
  repeat first
   | refine qm rfl rfl ?_
   | refine step_pure rfl (pure_lss rfl rfl) ?_
   | refine step_nil ?_
   | refine c_seq ?_
   | refine c_region ?_
  refine c_cond rfl (fun h => ?_) (fun h => ?_)
  ·have hlt16 : c < 16 := by have := of_decide_eq_true h; omega
   clear h
   refine c_skip ?_
   have hnc : rkC W O k round (c + 1) = (rkC W O k round c).set (16 * (k + 1) + c) (xr (W.getD c 0) (rkA2 W (rkC W O k round c) k c round)) := rfl
   generalize rkC W O k round c = C at hCl hnc ⊢
   repeat first
    | refine step_pure rfl (pure_ix (off' := 16 * (k + 1)) rfl rfl rfl rfl rfl (by omega) (by omega) (by show 0 + ((k : Int) + 1).toNat * 16 = _; omega)) ?_
    | refine step_pure rfl (pure_ix (off' := 16 * (k + 1) + (c - 4)) rfl rfl rfl rfl rfl (by omega) (by omega) (by show 16 * (k + 1) + (max ((c : Int) - 4) 0).toNat * 1 = _; omega)) ?_
    | refine step_pure rfl (pure_load (i := 1) rfl rfl rfl rfl rfl (row_get _ _ (by omega))) ?_
    | refine qm rfl rfl ?_
    | refine step_pure rfl (pure_sub64 rfl rfl (by omega) (by omega)) ?_
    | refine step_pure rfl (pure_lss rfl rfl) ?_
    | refine step_pure rfl (pure_max rfl rfl) ?_
    | refine qa rfl rfl ?_
    | refine step_nil ?_
    | refine c_seq ?_
    | refine c_region ?_
    | refine c_block ?_
   refine c_meet [(2, .pointer (some ⟨bR, 0, none⟩)), (3, .pointer (some ⟨bO, 0, none⟩)), (4, .int .u8 round), (5, .int .i64 (k + 1)), (6, .pointer (some ⟨bW, 0, none⟩)), (7, .int .i64 c), (8, .int .u8 (rkA1 W C k c))]
    [⟨bW, row W, 28⟩, ⟨bO, row C, 124⟩, ⟨bR, row (zeros 176), 124⟩] ?_ ?_
   ·refine c_cond rfl (fun h => ?_) (fun h => ?_)
    ·have h4 : c < 4 := by have := of_decide_eq_true h; omega
     have e : rkA1 W C k c = rbox (W.getD (12 + (c + 1) % 4) 0) := if_pos h4
     rw [e]
     repeat first
      | refine step_pure rfl (pure_ix (off' := 12 + (c + 1) % 4) rfl rfl rfl rfl rfl (by omega) (by omega) (by show 0 + (12 + ((c : Int) + 1) % 4).toNat * 1 = _; omega)) ?_
      | refine step_pure rfl (pure_load (i := 0) rfl rfl rfl rfl rfl (row_get _ _ (by omega))) ?_
      | refine step_gives rfl fun75 rfl (fun w _ _ => rbox_any _ w) ?_
      | refine qm rfl rfl ?_
      | refine step_pure rfl (pure_add64 rfl rfl (by omega) (by omega)) ?_
      | refine step_pure rfl (pure_rem_pos rfl rfl (by omega) (by decide)) ?_
      | refine qa rfl rfl ?_
      | refine step_nil ?_
      | refine c_region ?_
     exact less_of ⟨rfl, rfl, rfl, rfl, rfl, rfl, rfl, trivial⟩ rfl
    ·have h4 : ¬ c < 4 := by have := of_decide_eq_false h; omega
     have e : rkA1 W C k c = C.getD (16 * (k + 1) + (c - 4)) 0 := if_neg h4
     rw [e]
     exact c_skip (less_of ⟨rfl, rfl, rfl, rfl, rfl, rfl, rfl, trivial⟩ rfl)
   repeat first
    | refine qm rfl rfl ?_
    | refine step_pure rfl (pure_eql rfl rfl) ?_
    | refine step_nil ?_
    | refine c_seq ?_
    | refine c_region ?_
   refine c_meet [(2, .pointer (some ⟨bR, 0, none⟩)), (3, .pointer (some ⟨bO, 0, none⟩)), (4, .int .u8 round), (5, .int .i64 (k + 1)), (6, .pointer (some ⟨bW, 0, none⟩)), (7, .int .i64 c), (8, .int .u8 (rkA2 W C k c round))]
    [⟨bW, row W, 28⟩, ⟨bO, row C, 124⟩, ⟨bR, row (zeros 176), 124⟩] ?_ ?_
   ·refine c_cond rfl (fun h => ?_) (fun h => ?_)
    ·have h4 : c = 0 := by have := eq_of_beq h; omega
     have e : rkA2 W C k c round = xr (rkA1 W C k c) round := if_pos h4
     rw [e]
     repeat first
      | refine qm rfl rfl ?_
      | refine step_pure rfl (pure_xor rfl rfl) ?_
      | refine qa rfl rfl ?_
      | refine step_nil ?_
      | refine c_region ?_
     exact less_of ⟨rfl, rfl, rfl, rfl, rfl, rfl, rfl, trivial⟩ rfl
    ·have h4 : ¬ c = 0 := by intro hc0; subst hc0; cases h
     have e : rkA2 W C k c round = rkA1 W C k c := if_neg h4
     rw [e]
     exact c_skip (less_of ⟨rfl, rfl, rfl, rfl, rfl, rfl, rfl, trivial⟩ rfl)
   skip
   refine d_region p12a follows (by kernel_rfl) ?_
   repeat first
    | refine d_pure0 rfl rfl rfl (pure_ix (off' := c) rfl rfl rfl rfl rfl (by omega) (by omega) (by show 0 + (c : Int).toNat * 1 = _; omega)) ?_
    | refine d_pure0 rfl rfl rfl (pure_ix (off' := 16 * (k + 1)) rfl rfl rfl rfl rfl (by omega) (by omega) (by show 0 + ((k : Int) + 1).toNat * 16 = _; omega)) ?_
    | refine d_pure0 rfl rfl rfl (pure_ix (off' := 16 * (k + 1) + c) rfl rfl rfl rfl rfl (by omega) (by omega) (by show 16 * (k + 1) + (c : Int).toNat * 1 = _; omega)) ?_
    | refine d_pure1 rfl rfl rfl (pure_load (i := 0) rfl rfl rfl rfl rfl (row_get _ _ (by omega))) (SubMem.refl _) ?_
    | refine d_store 1 rfl rfl rfl rfl rfl rfl rfl rfl rfl rfl (by rw [row_len]; omega) (row_set _ _ _) rfl rfl ?_
    | refine qd rfl rfl rfl rfl ?_
    | refine d_pure0 rfl rfl rfl (pure_xor rfl rfl) ?_
    | refine d_nil ?_
   repeat first
    | refine qm rfl rfl ?_
    | refine step_pure rfl (pure_add64 rfl rfl (by omega) (by omega)) ?_
    | refine qa rfl rfl ?_
    | refine step_nil ?_
    | refine c_region ?_
   refine ⟨c + 1, hlt16, by omega, less_of ⟨rfl, rfl, rfl, rfl, rfl, rfl, trivial⟩ ?_⟩
   rw [hnc]; rfl
  ·have hc16 : c = 16 := by have := of_decide_eq_false h; omega
   have hT : row (rkC W O k round c) = row (rkK key (k + 1)).1 := by rw [hc16, hnext]
   rw [hT]
   clear h hc16 hT hCl
   refine c_exit ?_
   have fun76' := fun76
   repeat first
    | refine step_gives rfl fun76 rfl (fun w _ _ => times_any _ _ w) ?_
    | refine qm rfl rfl ?_
    | refine step_pure rfl (pure_add64 rfl rfl (by omega) (by omega)) ?_
    | refine qa rfl rfl ?_
    | refine step_nil ?_
    | refine c_region ?_
   refine ⟨k + 1, hlt, by omega, ⟨look_all ⟨rfl, rfl, ?_, rfl, trivial⟩, fun _ h => ⟨h.2.2.1, h.2.2.2.1, h.2.2.2.2⟩, fun _ h => h.2⟩⟩
   rw [hnext]; rfl
 ·have hk10 : k = 10 := by have := of_decide_eq_false h; omega
  have hT : row (rkF key) = row (rkK key k).1 := by rw [rkF_is key k hk10]
  rw [hT]
  have hl' : (row (rkK key k).1).length = 176 := by rw [row_len, hOl]
  have hone : ∀ v ∈ row (rkK key k).1, v.oneCell' = true := row_one _
  generalize row (rkK key k).1 = T at hl' hone ⊢
  clear h hT hk10 hOl hkk
  refine c_exit ?_
  repeat first
   | refine step_pure rfl (pure_load_agg (i := 0) rfl rfl rfl rfl rfl (by rw [hl']; decide) (show _ = T from by rw [List.drop_zero, List.take_of_length_le (by rw [hl']; decide)])) ?_
   | refine c_seq ?_
   | refine c_region ?_
  refine step_store_agg 1 rfl rfl rfl hone rfl hl' rfl rfl (by simp only [row_len, zeros_len]; decide) (splice_all (by rw [hl', row_len, zeros_len])) ?_
  refine step_nil (c_ret ⟨_, res_cell_agg (i := 1) Try.results73 rfl rfl rfl rfl rfl (by show 0 + 176 ≤ T.length; rw [hl']; decide) rfl, ?_⟩)
  show Value.agg ((T.drop 0).take 176).toArray = _
  rw [List.drop_zero, List.take_of_length_le (by rw [hl']; decide)]
end Go.Proofs.Ythieegnhjoehbaa
namespace Go.Proofs.Ythieegnhjoehbaa
open Go.RowKit Go.Vc
set_option linter.unusedVariables false
def rsR (s T : List Int) (c : Nat) : Nat → List Int
 | 0 => T
 | r + 1 => (rsR s T c r).set (4 * c + r) (rbox (s.getD (4 * ((c + r) % 4) + r) 0))
def rsC (s : List Int) : Nat → List Int
 | 0 => zeros 16
 | c + 1 => rsR s (rsC s c) c 4
def rmR (t U : List Int) (c : Nat) : Nat → List Int
 | 0 => U
 | r + 1 => (rmR t U c r).set (4 * c + r) (xr (xr (xr (tms (t.getD (4 * c + r) 0) 2) (tms (t.getD (4 * c + (r + 1) % 4) 0) 3)) (t.getD (4 * c + (r + 2) % 4) 0)) (t.getD (4 * c + (r + 3) % 4) 0))
def rmC (t : List Int) : Nat → List Int
 | 0 => t
 | c + 1 => rmR t (rmC t c) c 4
def rrnd (K s : List Int) (n : Nat) : List Int := chS (if n < 10 then rmC (rsC s 4) 4 else rsC s 4) ((K.drop (16 * n)).take 16) 16
def rblk (K b : List Int) : Nat → List Int
 | 0 => chS b ((K.drop (16 * 0)).take 16) 16
 | n + 1 => rrnd K (rblk K b n) (n + 1)
theorem rsR_len (s T : List Int) (c r : Nat) : (rsR s T c r).length = T.length := by
 induction r with
 | zero => rfl
 | succ r ih => exact (List.length_set ..).trans ih
theorem rsC_len (s : List Int) (c : Nat) : (rsC s c).length = 16 := by
 induction c with
 | zero => exact zeros_len 16
 | succ c ih => exact (rsR_len ..).trans ih
theorem rmR_len (t U : List Int) (c r : Nat) : (rmR t U c r).length = U.length := by
 induction r with
 | zero => rfl
 | succ r ih => exact (List.length_set ..).trans ih
theorem rmC_len (t : List Int) (c : Nat) : (rmC t c).length = t.length := by
 induction c with
 | zero => rfl
 | succ c ih => exact (rmR_len ..).trans ih
theorem rrnd_len (K s : List Int) (n : Nat) : (rrnd K s n).length = 16 := by
 unfold rrnd
 rw [chS_len]
 split
 ·rw [rmC_len, rsC_len]
 ·rw [rsC_len]
theorem rblk_len (K b : List Int) (h : b.length = 16) (n : Nat) : (rblk K b n).length = 16 := by
 cases n with
 | zero => exact (chS_len ..).trans h
 | succ n => exact rrnd_len ..
def rblkF (K b : List Int) : List Int := rblk K b 10
theorem rblkF_len (K b : List Int) (h : b.length = 16) : (rblkF K b).length = 16 := rblk_len K b h 10
theorem rblkF_is (K b : List Int) (i : Nat) (h : i = 10) : rblkF K b = rblk K b i := by rw [h]; rfl
attribute [irreducible] rblkF
def p10a : List Nat := [1, 9, 17, 25, 33, 41, 49, 57, 65, 75, 83, 89, 97, 105, 113, 121, 129, 137, 147, 155, 161, 169, 177, 185, 193, 201, 209, 217, 227, 233, 241, 249, 257, 265, 273, 281, 289, 299, 305, 313, 324]
def p10b : List Nat := [3, 9, 17, 27, 35, 44]
set_option maxHeartbeats 2000000 in
set_option maxRecDepth 100000 in
theorem rblock_any (key b : List Int) (w : World) (hk : key.length = 16) (hb : b.length = 16) :
  Gives tb 53 [.agg (row key).toArray, .agg (row b).toArray] w (.agg (row (rblkF (rkF key) b)).toArray) := by
 refine gives_of (fn := Try.f53) Try.func53 rfl Try.ntmps53 rfl ?_
 have hKl := rkF_len key hk
 refine c_seq (c_region (step_box_agg rfl rfl (fun bK => step_box_agg rfl rfl (fun bI => step_alloc rfl zero28 (fun bR => ?_)))))
 repeat first
  | refine step_pure rfl (pure_load_agg (i := 2) rfl rfl rfl rfl rfl (by simp only [row_len, hk]; decide) (ints_whole _ _ 16 hk)) ?_
  | refine step_gives rfl fun73 rfl (fun w _ _ => rkeys_any _ w hk) ?_
  | refine step_nil ?_
  | refine c_seq ?_
  | refine c_region ?_
 generalize rkF key = K at hKl ⊢
 have hsub : ∀ n, n ≤ 10 → ((K.drop (16 * n)).take 16).length = 16 := fun n hn => by rw [List.length_take, List.length_drop, hKl]; omega
 repeat first
  | refine step_alloc rfl zero124 (fun bO => ?_)
  | refine step_store_agg 0 rfl rfl rfl (row_one _) rfl (by rw [row_len]; exact hKl) rfl rfl (by simp only [row_len, zeros_len]; decide) (splice_all (by simp only [row_len, zeros_len, hKl])) ?_
  | refine step_pure rfl (pure_ix (off' := 16 * 0) rfl rfl rfl rfl rfl (by decide) (by decide) rfl) ?_
  | refine step_pure rfl (pure_load_agg (i := 2) rfl rfl rfl rfl rfl (by simp only [row_len, hb]; decide) (ints_whole _ _ 16 hb)) ?_
  | refine step_pure rfl (pure_load_agg (i := 0) rfl rfl rfl rfl rfl (by simp only [row_len, hKl]; decide) (ints_sub _ _ _ _)) ?_
  | refine step_gives rfl fun74 rfl (fun w _ _ => changed_any _ _ w hb (hsub 0 (by decide))) ?_
  | refine step_nil ?_
  | refine c_seq ?_
  | refine c_region ?_
 repeat first
  | refine step_alloc rfl zero28 (fun bS => ?_)
  | refine step_store_agg 0 rfl rfl rfl (row_one _) rfl (by rw [row_len, chS_len]; exact hb) rfl rfl (by simp only [row_len, zeros_len]; decide) (splice_all (by simp only [row_len, zeros_len, chS_len, hb])) ?_
  | refine qa rfl rfl ?_
  | refine step_nil ?_
  | refine c_seq ?_
  | refine c_region ?_
  | refine c_block ?_
 refine c_loop (α := Nat) (fun n => [(4, .pointer (some ⟨bR, 0, none⟩)), (5, .pointer (some ⟨bO, 0, none⟩)), (6, .pointer (some ⟨bS, 0, none⟩)), (7, .int .i64 (n + 1))])
  (fun n => [⟨bS, row (rblk K b n), 28⟩, ⟨bO, row K, 124⟩, ⟨bR, row (zeros 16), 28⟩]) (fun n => n ≤ 10) (fun n => 10 - n) 0 (by decide)
  (less_sub ⟨rfl, rfl, rfl, rfl, trivial⟩ (by repeat (first | exact List.Sublist.slnil | apply List.Sublist.cons_cons | apply List.Sublist.cons))) ?_
 intro n hn
 have hBl := rblk_len K b hb n
 repeat first
  | refine qm rfl rfl ?_
  | refine step_pure rfl (pure_lss rfl rfl) ?_
  | refine step_nil ?_
  | refine c_seq ?_
  | refine c_region ?_
 refine c_cond rfl (fun h => ?_) (fun h => ?_)
 ·have hlt : n < 10 := by have := of_decide_eq_true h; omega
  clear h
  refine c_skip ?_
  have hnext : rblk K b (n + 1) = rrnd K (rblk K b n) (n + 1) := rfl
  generalize rblk K b n = s at hBl hnext ⊢
  repeat first
   | refine step_pure rfl (pure_build_arr rfl zero28 rfl rfl rfl rfl) ?_
   | refine step_alloc rfl zero28 (fun bT => ?_)
   | refine step_store_agg 0 rfl rfl rfl (row_one _) rfl (by rw [row_len, zeros_len]) rfl rfl (by simp only [row_len, zeros_len]; decide) (splice_all rfl) ?_
   | refine qa rfl rfl ?_
   | refine step_nil ?_
   | refine c_seq ?_
   | refine c_region ?_
   | refine c_block ?_
  refine c_loop (α := Nat) (fun c => [(4, .pointer (some ⟨bR, 0, none⟩)), (5, .pointer (some ⟨bO, 0, none⟩)), (6, .pointer (some ⟨bS, 0, none⟩)), (7, .int .i64 (n + 1)), (8, .pointer (some ⟨bT, 0, none⟩)), (9, .int .i64 c)])
   (fun c => [⟨bT, row (rsC s c), 28⟩, ⟨bS, row s, 28⟩, ⟨bO, row K, 124⟩, ⟨bR, row (zeros 16), 28⟩]) (fun c => c ≤ 4) (fun c => 4 - c) 0 (by decide) (less_of ⟨rfl, rfl, rfl, rfl, rfl, rfl, trivial⟩ rfl) ?_
  intro c hc
  have hcl := rsC_len s c
  repeat first
   | refine qm rfl rfl ?_
   | refine step_pure rfl (pure_lss rfl rfl) ?_
   | refine step_nil ?_
   | refine c_seq ?_
   | refine c_region ?_
  refine c_cond rfl (fun h => ?_) (fun h => ?_)
  ·have hlt4 : c < 4 := by have := of_decide_eq_true h; omega
   clear h
   refine c_skip ?_
   have hnc : rsC s (c + 1) = rsR s (rsC s c) c 4 := rfl
   generalize rsC s c = T at hcl hnc ⊢
   repeat first
    | refine qa rfl rfl ?_
    | refine step_nil ?_
    | refine c_seq ?_
    | refine c_region ?_
    | refine c_block ?_
   refine c_loop (α := Nat) (fun r => [(4, .pointer (some ⟨bR, 0, none⟩)), (5, .pointer (some ⟨bO, 0, none⟩)), (6, .pointer (some ⟨bS, 0, none⟩)), (7, .int .i64 (n + 1)), (8, .pointer (some ⟨bT, 0, none⟩)), (9, .int .i64 c), (10, .int .i64 r)])
    (fun r => [⟨bT, row (rsR s T c r), 28⟩, ⟨bS, row s, 28⟩, ⟨bO, row K, 124⟩, ⟨bR, row (zeros 16), 28⟩]) (fun r => r ≤ 4) (fun r => 4 - r) 0 (by decide) (less_of ⟨rfl, rfl, rfl, rfl, rfl, rfl, rfl, trivial⟩ rfl) ?_
   intro r hr
   have hrl := (rsR_len s T c r).trans hcl
   repeat first
    | refine qm rfl rfl ?_
    | refine step_pure rfl (pure_lss rfl rfl) ?_
    | refine step_nil ?_
    | refine c_seq ?_
    | refine c_region ?_
   refine c_cond rfl (fun h => ?_) (fun h => ?_)
   ·have hr4 : r < 4 := by have := of_decide_eq_true h; omega
    clear h
    refine c_skip ?_
    repeat first
     | refine step_pure rfl (pure_ix (off' := 4 * ((c + r) % 4) + r) rfl rfl rfl rfl rfl (by omega) (by omega) (by show 0 + (4 * (((c + r : Nat) : Int) % 4) + r).toNat * 1 = _; omega)) ?_
     | refine step_pure rfl (pure_ix (off' := 4 * c + r) rfl rfl rfl rfl rfl (by omega) (by omega) (by show 0 + (4 * (c : Int) + r).toNat * 1 = _; omega)) ?_
     | refine step_pure rfl (pure_load (i := 1) rfl rfl rfl rfl rfl (row_get _ _ (by omega))) ?_
     | refine step_gives rfl fun75 rfl (fun w _ _ => rbox_any _ w) ?_
     | refine step_store 0 rfl rfl rfl rfl rfl rfl rfl rfl (by rw [row_len]; omega) (row_set _ _ _) ?_
     | refine qm rfl rfl ?_
     | refine step_pure rfl (pure_add64 rfl rfl (by omega) (by omega)) ?_
     | refine step_pure rfl (pure_mul64 rfl rfl (by omega) (by omega)) ?_
     | refine step_pure rfl (pure_rem_pos rfl rfl (by omega) (by decide)) ?_
     | refine qa rfl rfl ?_
     | refine step_nil ?_
     | refine c_seq ?_
     | refine c_region ?_
     | refine c_block ?_
    exact ⟨r + 1, hr4, by omega, less_of ⟨rfl, rfl, rfl, rfl, rfl, rfl, rfl, trivial⟩ rfl⟩
   ·have hr4 : r = 4 := by have := of_decide_eq_false h; omega
    rw [hr4, ← hnc]
    refine c_exit ?_
    repeat first
     | refine qm rfl rfl ?_
     | refine step_pure rfl (pure_add64 rfl rfl (by omega) (by omega)) ?_
     | refine qa rfl rfl ?_
     | refine step_nil ?_
     | refine c_region ?_
    exact ⟨c + 1, hlt4, by omega, less_of ⟨rfl, rfl, rfl, rfl, rfl, rfl, trivial⟩ rfl⟩
  ·have hc4 : c = 4 := by have := of_decide_eq_false h; omega
   have hT : rsC s c = rsC s 4 := by rw [hc4]
   rw [hT]
   have htl := rsC_len s 4
   have hnx : rrnd K s (n + 1) = chS (if n + 1 < 10 then rmC (rsC s 4) 4 else rsC s 4) ((K.drop (16 * (n + 1))).take 16) 16 := rfl
   generalize rsC s 4 = t at htl hnx ⊢
   clear h hT hc4 hcl hc
   refine c_exit ?_
   repeat first
    | refine qm rfl rfl ?_
    | refine step_pure rfl (pure_lss rfl rfl) ?_
    | refine step_nil ?_
    | refine c_seq ?_
    | refine c_region ?_
   obtain ⟨u, hu, hul⟩ : ∃ u, u = (if n + 1 < 10 then rmC t 4 else t) ∧ u.length = 16 := ⟨_, rfl, by split; exact (rmC_len ..).trans htl; exact htl⟩
   refine c_meet [(4, .pointer (some ⟨bR, 0, none⟩)), (5, .pointer (some ⟨bO, 0, none⟩)), (6, .pointer (some ⟨bS, 0, none⟩)), (7, .int .i64 (n + 1)), (8, .pointer (some ⟨bT, 0, none⟩))]
    [⟨bT, row u, 28⟩, ⟨bS, row s, 28⟩, ⟨bO, row K, 124⟩, ⟨bR, row (zeros 16), 28⟩] ?_ ?_
   ·refine c_cond rfl (fun h => ?_) (fun h => ?_)
    ·have hn1 : n + 1 < 10 := by have := of_decide_eq_true h; omega
     rw [if_pos hn1] at hu
     clear h
     repeat first
      | refine step_pure rfl (pure_load_agg (i := 0) rfl rfl rfl rfl rfl (by simp only [row_len, htl]; decide) (ints_whole _ _ 16 htl)) ?_
      | refine step_alloc rfl zero28 (fun bU => ?_)
      | refine step_store_agg 0 rfl rfl rfl (row_one _) rfl (by rw [row_len]; exact htl) rfl rfl (by simp only [row_len, zeros_len]; decide) (splice_all (by simp only [row_len, zeros_len, htl])) ?_
      | refine qa rfl rfl ?_
      | refine step_nil ?_
      | refine c_seq ?_
      | refine c_region ?_
      | refine c_block ?_
     refine c_loop (α := Nat) (fun c => [(4, .pointer (some ⟨bR, 0, none⟩)), (5, .pointer (some ⟨bO, 0, none⟩)), (6, .pointer (some ⟨bS, 0, none⟩)), (7, .int .i64 (n + 1)), (8, .pointer (some ⟨bT, 0, none⟩)), (11, .pointer (some ⟨bU, 0, none⟩)), (12, .int .i64 c)])
      (fun c => [⟨bU, row (rmC t c), 28⟩, ⟨bT, row t, 28⟩, ⟨bS, row s, 28⟩, ⟨bO, row K, 124⟩, ⟨bR, row (zeros 16), 28⟩]) (fun c => c ≤ 4) (fun c => 4 - c) 0 (by decide) (less_of ⟨rfl, rfl, rfl, rfl, rfl, rfl, rfl, trivial⟩ rfl) ?_
     intro c hc
     have hcl := (rmC_len t c).trans htl
     repeat first
      | refine qm rfl rfl ?_
      | refine step_pure rfl (pure_lss rfl rfl) ?_
      | refine step_nil ?_
      | refine c_seq ?_
      | refine c_region ?_
     refine c_cond rfl (fun h => ?_) (fun h => ?_)
     ·have hlt4 : c < 4 := by have := of_decide_eq_true h; omega
      clear h
      refine c_skip ?_
      have hnc : rmC t (c + 1) = rmR t (rmC t c) c 4 := rfl
      generalize rmC t c = U at hcl hnc ⊢
      repeat first
       | refine qa rfl rfl ?_
       | refine step_nil ?_
       | refine c_seq ?_
       | refine c_region ?_
       | refine c_block ?_
      refine c_loop (α := Nat) (fun r => [(4, .pointer (some ⟨bR, 0, none⟩)), (5, .pointer (some ⟨bO, 0, none⟩)), (6, .pointer (some ⟨bS, 0, none⟩)), (7, .int .i64 (n + 1)), (8, .pointer (some ⟨bT, 0, none⟩)), (11, .pointer (some ⟨bU, 0, none⟩)), (12, .int .i64 c), (13, .int .i64 r)])
       (fun r => [⟨bU, row (rmR t U c r), 28⟩, ⟨bT, row t, 28⟩, ⟨bS, row s, 28⟩, ⟨bO, row K, 124⟩, ⟨bR, row (zeros 16), 28⟩]) (fun r => r ≤ 4) (fun r => 4 - r) 0 (by decide) (less_of ⟨rfl, rfl, rfl, rfl, rfl, rfl, rfl, rfl, trivial⟩ rfl) ?_
      intro r hr
      have hrl := (rmR_len t U c r).trans hcl
      repeat first
       | refine qm rfl rfl ?_
       | refine step_pure rfl (pure_lss rfl rfl) ?_
       | refine step_nil ?_
       | refine c_seq ?_
       | refine c_region ?_
      refine c_cond rfl (fun h => ?_) (fun h => ?_)
      ·have hr4 : r < 4 := by have := of_decide_eq_true h; omega
       clear h
       refine c_skip ?_
       repeat first
        | refine c_seq ?_
        | refine c_block ?_
       refine d_region p10a follows (by kernel_rfl) ?_
       repeat first
        | refine d_pure0 rfl rfl rfl (pure_ix (off' := 4 * c + r) rfl rfl rfl rfl rfl (by omega) (by omega) (by show 0 + (4 * (c : Int) + r).toNat * 1 = _; omega)) ?_
        | refine d_pure0 rfl rfl rfl (pure_ix (off' := 4 * c + (r + 1) % 4) rfl rfl rfl rfl rfl (by omega) (by omega) (by show 0 + (4 * (c : Int) + ((r + 1 : Nat) : Int) % 4).toNat * 1 = _; omega)) ?_
        | refine d_pure0 rfl rfl rfl (pure_ix (off' := 4 * c + (r + 2) % 4) rfl rfl rfl rfl rfl (by omega) (by omega) (by show 0 + (4 * (c : Int) + ((r + 2 : Nat) : Int) % 4).toNat * 1 = _; omega)) ?_
        | refine d_pure0 rfl rfl rfl (pure_ix (off' := 4 * c + (r + 3) % 4) rfl rfl rfl rfl rfl (by omega) (by omega) (by show 0 + (4 * (c : Int) + ((r + 3 : Nat) : Int) % 4).toNat * 1 = _; omega)) ?_
        | refine d_pure1 rfl rfl rfl (pure_load (i := 1) rfl rfl rfl rfl rfl (row_get _ _ (by omega))) (SubMem.refl _) ?_
        | refine d_gives rfl rfl rfl fun76 rfl (fun w _ _ => times_any _ _ w) (SubMem.refl _) ?_
        | refine d_store 0 rfl rfl rfl rfl rfl rfl rfl rfl rfl rfl (by rw [row_len]; omega) (row_set _ _ _) rfl rfl ?_
        | refine qd rfl rfl rfl rfl ?_
        | refine d_pure0 rfl rfl rfl (pure_add64 rfl rfl (by omega) (by omega)) ?_
        | refine d_pure0 rfl rfl rfl (pure_mul64 rfl rfl (by omega) (by omega)) ?_
        | refine d_pure0 rfl rfl rfl (pure_rem_pos rfl rfl (by omega) (by decide)) ?_
        | refine d_pure0 rfl rfl rfl (pure_xor rfl rfl) ?_
        | refine d_nil ?_
       repeat first
        | refine qm rfl rfl ?_
        | refine step_pure rfl (pure_add64 rfl rfl (by omega) (by omega)) ?_
        | refine qa rfl rfl ?_
        | refine step_nil ?_
        | refine c_region ?_
       exact ⟨r + 1, hr4, by omega, less_of ⟨rfl, rfl, rfl, rfl, rfl, rfl, rfl, rfl, trivial⟩ rfl⟩
      ·have hr4 : r = 4 := by have := of_decide_eq_false h; omega
       rw [hr4, ← hnc]
       refine c_exit ?_
       repeat first
        | refine qm rfl rfl ?_
        | refine step_pure rfl (pure_add64 rfl rfl (by omega) (by omega)) ?_
        | refine qa rfl rfl ?_
        | refine step_nil ?_
        | refine c_region ?_
       exact ⟨c + 1, hlt4, by omega, less_of ⟨rfl, rfl, rfl, rfl, rfl, rfl, rfl, trivial⟩ rfl⟩
     ·have hc4 : c = 4 := by have := of_decide_eq_false h; omega
      rw [hc4] at hcl ⊢
      rw [← hu] at hcl ⊢
      refine c_exit ?_
      repeat first
       | refine step_pure rfl (pure_load_agg (i := 0) rfl rfl rfl rfl rfl (by simp only [row_len, hcl]; decide) (ints_whole _ _ 16 hcl)) ?_
       | refine step_store_agg 1 rfl rfl rfl (row_one _) rfl (by rw [row_len]; exact hcl) rfl rfl (by simp only [row_len, htl]; decide) (splice_all (by simp only [row_len, htl, hcl])) ?_
       | refine step_nil ?_
       | refine c_region ?_
      exact ⟨look_all ⟨rfl, rfl, rfl, rfl, rfl, trivial⟩, fun _ h => h.2.2, fun _ h => h.2⟩
    ·have hn1 : ¬ n + 1 < 10 := by have := of_decide_eq_false h; omega
     rw [if_neg hn1] at hu
     subst hu
     refine c_skip (less_of ⟨rfl, rfl, rfl, rfl, rfl, trivial⟩ rfl)
   refine d_region p10b follows (by kernel_rfl) ?_
   repeat first
    | refine d_pure0 rfl rfl rfl (pure_ix (off' := 16 * (n + 1)) rfl rfl rfl rfl rfl (by omega) (by omega) (by show 0 + ((n : Int) + 1).toNat * 16 = _; omega)) ?_
    | refine d_pure1 rfl rfl rfl (pure_load_agg (i := 0) rfl rfl rfl rfl rfl (by simp only [row_len, hul]; decide) (ints_whole _ _ 16 hul)) (SubMem.refl _) ?_
    | refine d_pure1 rfl rfl rfl (pure_load_agg (i := 2) rfl rfl rfl rfl rfl (by simp only [row_len, hKl]; show 16 * (n + 1) + 16 ≤ 176; omega) (ints_sub _ _ _ _)) (SubMem.refl _) ?_
    | refine d_gives rfl rfl rfl fun74 rfl (fun w _ _ => changed_any _ _ w hul (hsub (n + 1) (by omega))) (SubMem.refl _) ?_
    | refine d_store_agg 1 rfl rfl rfl rfl rfl (row_one _) rfl (by rw [row_len, chS_len]; exact hul) rfl rfl (by simp only [row_len, hBl]; decide) (splice_all (by simp only [row_len, chS_len, hul, hBl])) rfl rfl ?_
    | refine qd rfl rfl rfl rfl ?_
    | refine d_nil ?_
   repeat first
    | refine qm rfl rfl ?_
    | refine step_pure rfl (pure_add64 rfl rfl (by omega) (by omega)) ?_
    | refine qa rfl rfl ?_
    | refine step_nil ?_
    | refine c_region ?_
   refine ⟨n + 1, hlt, by omega, ?_⟩
   rw [hnext, hnx, ← hu]
   generalize chS u ((K.drop (16 * (n + 1))).take 16) 16 = X
   exact ⟨look_all ⟨rfl, rfl, rfl, rfl, trivial⟩, fun _ h => ⟨h.2.2.1, h.2.2.2.1, h.2.2.2.2⟩, fun _ h => h.2⟩
 ·have hk10 : n = 10 := by have := of_decide_eq_false h; omega
  have hT : row (rblkF K b) = row (rblk K b n) := by rw [rblkF_is K b n hk10]
  rw [hT]
  have hl' : (row (rblk K b n)).length = 16 := by rw [row_len, hBl]
  have hone : ∀ v ∈ row (rblk K b n), v.oneCell' = true := row_one _
  generalize row (rblk K b n) = T at hl' hone ⊢
  clear h hT hk10 hBl hn
  refine c_exit ?_
  repeat first
   | refine step_pure rfl (pure_load_agg (i := 0) rfl rfl rfl rfl rfl (by rw [hl']; decide) (show _ = T from by rw [List.drop_zero, List.take_of_length_le (by rw [hl']; decide)])) ?_
   | refine c_seq ?_
   | refine c_region ?_
  refine step_store_agg 2 rfl rfl rfl hone rfl hl' rfl rfl (by simp only [row_len, zeros_len]; decide) (splice_all (by rw [hl', row_len, zeros_len])) ?_
  refine step_nil (c_ret ⟨_, res_cell_agg (i := 2) Try.results53 rfl rfl rfl rfl rfl (by show 0 + 16 ≤ T.length; rw [hl']; decide) rfl, ?_⟩)
  show Value.agg ((T.drop 0).take 16).toArray = _
  rw [List.drop_zero, List.take_of_length_le (by rw [hl']; decide)]
end Go.Proofs.Ythieegnhjoehbaa
