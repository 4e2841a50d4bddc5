/- What the statements' common head says. -/
import Derived.Test.YtgpjbfedbncniaaA10
import Derived.Test.YtgpjbfedbncniaaVt
import Derived.Laws.BitsAllLaws
namespace Go.Proofs.Ytgpjbfedbncniaa
open Go.RowKit Go.Vc
set_option linter.unusedVariables false

/-! plain -/
def boxL : List Int := [99, 124, 119, 123, 242, 107, 111, 197, 48, 1, 103, 43, 254, 215, 171, 118, 202, 130, 201, 125, 250, 89, 71, 240, 173, 212, 162, 175, 156, 164, 114, 192, 183, 253, 147, 38, 54, 63, 247, 204, 52, 165, 229, 241, 113, 216, 49, 21, 4, 199, 35, 195, 24, 150, 5, 154, 7, 18, 128, 226, 235, 39, 178, 117, 9, 131, 44, 26, 27, 110, 90, 160, 82, 59, 214, 179, 41, 227, 47, 132, 83, 209, 0, 237, 32, 252, 177, 91, 106, 203, 190, 57, 74, 76, 88, 207, 208, 239, 170, 251, 67, 77, 51, 133, 69, 249, 2, 127, 80, 60, 159, 168, 81, 163, 64, 143, 146, 157, 56, 245, 188, 182, 218, 33, 16, 255, 243, 210, 205, 12, 19, 236, 95, 151, 68, 23, 196, 167, 126, 61, 100, 93, 25, 115, 96, 129, 79, 220, 34, 42, 144, 136, 70, 238, 184, 20, 222, 94, 11, 219, 224, 50, 58, 10, 73, 6, 36, 92, 194, 211, 172, 98, 145, 149, 228, 121, 231, 200, 55, 109, 141, 213, 78, 169, 108, 86, 244, 234, 101, 122, 174, 8, 186, 120, 37, 46, 28, 166, 180, 198, 232, 221, 116, 31, 75, 189, 139, 138, 112, 62, 181, 102, 72, 3, 246, 14, 97, 53, 87, 185, 134, 193, 29, 158, 225, 248, 152, 17, 105, 217, 142, 148, 155, 30, 135, 233, 206, 85, 40, 223, 140, 161, 137, 13, 191, 230, 66, 104, 65, 153, 45, 15, 176, 84, 187, 22]
theorem boxT_lit : boxT = boxL := by decide +kernel
def K0 : List Int := [0,1,2,3,4,5,6,7,8,9,10,11,12,13,14,15]
def B0 : List Int := [0,17,34,51,68,85,102,119,136,153,170,187,204,221,238,255]
set_option maxRecDepth 100000 in
theorem k0_keys : ((expF boxT K0).getD 160 0, (expF boxT K0).getD 175 0) = (19, 197) := by rw [boxT_lit]; decide +kernel
set_option maxRecDepth 100000 in
theorem k0_block : ((blkF boxT (expF boxT K0) B0).getD 0 0, (blkF boxT (expF boxT K0) B0).getD 1 0, (blkF boxT (expF boxT K0) B0).getD 15 0) = (105, 196, 90) := by rw [boxT_lit]; decide +kernel
theorem xor_back (a b : Int) (h1 : 0 ≤ a ∧ a < 256) (h2 : 0 ≤ b ∧ b < 256) : bits .xor .u8 (bits .xor .u8 a b) b = a := by
  have h3 := bits_byte .xor a b
  rw [u8_xor _ _ h3.1 h3.2 h2.1 h2.2, u8_xor _ _ h1.1 h1.2 h2.1 h2.2, Int.toNat_natCast, Nat.xor_assoc, Nat.xor_self, Nat.xor_zero]
  omega
theorem strB_bytes (key A : List Int) (c0 : Int) (q : Nat) (hA : Bytes A) : Bytes (strB key A c0 q) := blkF_bytes _ _ _ (xbL_bytes A _ hA 8) boxT_bytes
theorem strAt_byte (key A : List Int) (c0 : Int) (k : Nat) (hA : Bytes A) : 0 ≤ strAt key A c0 k ∧ strAt key A c0 k < 256 := (strB_bytes key A c0 _ hA).at _
theorem outF_len (key A bs : List Int) (c : Int) : (outF key A bs c).length = bs.length := by simp [outF]
theorem outF_bytes (key A bs : List Int) (c : Int) : Bytes (outF key A bs c) := by
  intro x hx
  obtain ⟨i, _, rfl⟩ := List.mem_map.1 hx
  exact bits_byte _ _ _
theorem outF_back (key A bs : List Int) (c : Int) (hA : Bytes A) (hb : Bytes bs) : outF key A (outF key A bs c) c = bs := by
  apply List.ext_getElem?
  intro i
  by_cases hi : i < bs.length
  · have h1 : (outF key A bs c)[i]? = some (outAt key A bs c i) := by simp [outF, hi]
    have h2 : (outF key A (outF key A bs c) c)[i]? = some (outAt key A (outF key A bs c) c i) := by simp [outF, hi]
    rw [h2]
    unfold outAt
    rw [List.getD_eq_getElem?_getD, h1]
    simp only [Option.getD_some, outAt]
    rw [xor_back _ _ (hb.at i) (strAt_byte _ _ _ _ hA)]
    simp [hi]
  · rw [List.getElem?_eq_none (by rw [outF_len, outF_len]; omega), List.getElem?_eq_none (by omega)]

def awK : Nat → List Int
  | 0 => zeros 16
  | i + 1 => (awK i).set i (IntKind.u8.wrap i)
def awB : Nat → List Int
  | 0 => zeros 16
  | i + 1 => (awB i).set i (IntKind.u8.wrap (17 * (i : Int)))
theorem awK_len (i : Nat) : (awK i).length = 16 := by
  induction i with
  | zero => exact zeros_len 16
  | succ i ih => exact (List.length_set ..).trans ih
theorem awB_len (i : Nat) : (awB i).length = 16 := by
  induction i with
  | zero => exact zeros_len 16
  | succ i ih => exact (List.length_set ..).trans ih
theorem aw_end : awK 16 = K0 ∧ awB 16 = B0 := by decide +kernel
theorem slv_own {u : Ty} {eT : TypeId} {e : Ent} {base : Option Addr} {len cap j : Nat} {xs : List Value} {w : World} {m : Mem} (hu : u.size = 1) (hs : SlIs u eT e base len cap xs) (hh : Has w m) (he : nth m j = some e) :
    SlV w (.slice base len cap) xs := by
  have hl := hs.len
  rw [hu, Nat.mul_one] at hl
  refine ⟨⟨base, cap, by rw [hl], fun hne => ?_⟩, fun _ _ _ h => by cases h; exact hs.le⟩
  have hlive : e.cells ≠ [] := fun h => hne (by rw [← hs.xs, h]; simp)
  obtain ⟨hb, hel⟩ := hs.at_ hlive
  refine ⟨_, hb, fun j x hx => ?_⟩
  rw [add_none, Nat.zero_add]
  refine cell_of (hh.cell (nth_mem he) hlive) ?_
  rw [← hs.xs, List.getElem?_take] at hx
  split at hx
  · exact hx
  · cases hx

set_option maxHeartbeats 2000000 in
theorem awake_any (w : World) : Gives tb 8 [] w (.bool true) := by
  refine gives_of (fn := Try.f8) Try.func8 rfl Try.ntmps8 rfl ?_
  refine c_seq (c_region (step_pure rfl (pure_assign rfl) (step_nil ?_)))
  refine c_seq (c_region ?_)
  refine step_as rfl (pure_build_arr rfl zero22 rfl rfl rfl rfl) (show _ = Value.agg (row (zeros 16)).toArray from rfl) ?_
  refine step_alloc rfl zero22 (fun bK => ?_)
  refine step_store_agg 0 rfl rfl rfl (row_one _) rfl rfl rfl rfl (by simp only [row_len, zeros_len]; decide) (splice_all rfl) (step_nil ?_)
  refine c_seq (c_region ?_)
  refine step_as rfl (pure_build_arr rfl zero22 rfl rfl rfl rfl) (show _ = Value.agg (row (zeros 16)).toArray from rfl) ?_
  refine step_alloc rfl zero22 (fun bB => ?_)
  refine step_store_agg 0 rfl rfl rfl (row_one _) rfl rfl rfl rfl (by simp only [row_len, zeros_len]; decide) (splice_all rfl) (step_nil ?_)
  repeat first
    | refine step_pure rfl (pure_move rfl) ?_
    | refine step_pure rfl (pure_add64 rfl rfl (by omega) (by omega)) ?_
    | refine step_pure rfl (pure_sub64 rfl rfl (by omega) (by omega)) ?_
    | refine step_pure rfl (pure_mul64 rfl rfl (by omega) (by omega)) ?_
    | refine step_pure rfl (pure_rem_pos rfl rfl (by omega) (by decide)) ?_
    | refine step_pure rfl (pure_lss rfl rfl) ?_
    | refine step_pure rfl (pure_leq rfl rfl) ?_
    | refine step_pure rfl (pure_gtr rfl rfl) ?_
    | refine step_pure rfl (pure_geq rfl rfl) ?_
    | refine step_pure rfl (pure_eql rfl rfl) ?_
    | refine step_pure rfl (pure_neq rfl rfl) ?_
    | refine step_pure rfl (pure_xor rfl rfl) ?_
    | refine step_pure rfl (pure_and rfl rfl) ?_
    | refine step_pure rfl (pure_or rfl rfl) ?_
    | refine step_pure rfl (pure_shl rfl rfl (by decide)) ?_
    | refine step_pure rfl (pure_shr rfl rfl (by decide)) ?_
    | refine step_pure rfl (pure_conv rfl rfl rfl rfl) ?_
    | refine step_pure rfl (pure_nilCheck rfl) ?_
    | refine step_pure rfl (pure_not rfl) ?_
    | refine step_pure rfl (pure_extract rfl rfl) ?_
    | refine step_pure rfl (pure_max rfl rfl) ?_
    | refine step_pure rfl (pure_min rfl rfl) ?_
    | refine step_pure rfl (pure_ix rfl rfl rfl rfl rfl (by decide) (by decide) rfl) ?_
    | refine step_pure rfl (pure_assign rfl) ?_
    | refine step_nil ?_
    | refine c_seq ?_
    | refine c_region ?_
    | refine c_block ?_
  refine c_loop (α := Nat) (fun i => [(1, .pointer (some ⟨bK, 0, none⟩)), (2, .pointer (some ⟨bB, 0, none⟩)), (3, .int .i64 i)])
    (fun i => [⟨bB, row (awB i), 22⟩, ⟨bK, row (awK i), 22⟩]) (fun i => i ≤ 16) (fun i => 16 - i) 0 (by decide) (less_of ⟨rfl, rfl, rfl, trivial⟩ rfl) ?_
  intro i hi
  have hkl := awK_len i
  have hbl := awB_len i
  repeat first
    | refine step_pure rfl (pure_move rfl) ?_
    | refine step_pure rfl (pure_add64 rfl rfl (by omega) (by omega)) ?_
    | refine step_pure rfl (pure_sub64 rfl rfl (by omega) (by omega)) ?_
    | refine step_pure rfl (pure_mul64 rfl rfl (by omega) (by omega)) ?_
    | refine step_pure rfl (pure_rem_pos rfl rfl (by omega) (by decide)) ?_
    | refine step_pure rfl (pure_lss rfl rfl) ?_
    | refine step_pure rfl (pure_leq rfl rfl) ?_
    | refine step_pure rfl (pure_gtr rfl rfl) ?_
    | refine step_pure rfl (pure_geq rfl rfl) ?_
    | refine step_pure rfl (pure_eql rfl rfl) ?_
    | refine step_pure rfl (pure_neq rfl rfl) ?_
    | refine step_pure rfl (pure_xor rfl rfl) ?_
    | refine step_pure rfl (pure_and rfl rfl) ?_
    | refine step_pure rfl (pure_or rfl rfl) ?_
    | refine step_pure rfl (pure_shl rfl rfl (by decide)) ?_
    | refine step_pure rfl (pure_shr rfl rfl (by decide)) ?_
    | refine step_pure rfl (pure_conv rfl rfl rfl rfl) ?_
    | refine step_pure rfl (pure_nilCheck rfl) ?_
    | refine step_pure rfl (pure_not rfl) ?_
    | refine step_pure rfl (pure_extract rfl rfl) ?_
    | refine step_pure rfl (pure_max rfl rfl) ?_
    | refine step_pure rfl (pure_min rfl rfl) ?_
    | refine step_pure rfl (pure_ix rfl rfl rfl rfl rfl (by decide) (by decide) rfl) ?_
    | refine step_pure rfl (pure_assign rfl) ?_
    | refine step_nil ?_
    | refine c_seq ?_
    | refine c_region ?_
    | refine c_block ?_
  refine c_cond rfl (fun h => ?_) (fun h => ?_)
  · have hlt : i < 16 := by have := of_decide_eq_true h; omega
    clear h
    refine c_skip ?_
    repeat first
      | refine step_pure rfl (pure_ix (off' := i) rfl rfl rfl rfl rfl (by omega) (by omega) (by show 0 + (i : Int).toNat * 1 = _; omega)) ?_
      | refine step_store 1 rfl rfl rfl rfl rfl rfl rfl rfl (by rw [row_len]; omega) (row_set _ _ _) ?_
      | refine step_store 0 rfl rfl rfl rfl rfl rfl rfl rfl (by rw [row_len]; omega) (row_set _ _ _) ?_
      | refine step_pure rfl (pure_move rfl) ?_
      | refine step_pure rfl (pure_add64 rfl rfl (by omega) (by omega)) ?_
      | refine step_pure rfl (pure_sub64 rfl rfl (by omega) (by omega)) ?_
      | refine step_pure rfl (pure_mul64 rfl rfl (by omega) (by omega)) ?_
      | refine step_pure rfl (pure_rem_pos rfl rfl (by omega) (by decide)) ?_
      | refine step_pure rfl (pure_lss rfl rfl) ?_
      | refine step_pure rfl (pure_leq rfl rfl) ?_
      | refine step_pure rfl (pure_gtr rfl rfl) ?_
      | refine step_pure rfl (pure_geq rfl rfl) ?_
      | refine step_pure rfl (pure_eql rfl rfl) ?_
      | refine step_pure rfl (pure_neq rfl rfl) ?_
      | refine step_pure rfl (pure_xor rfl rfl) ?_
      | refine step_pure rfl (pure_and rfl rfl) ?_
      | refine step_pure rfl (pure_or rfl rfl) ?_
      | refine step_pure rfl (pure_shl rfl rfl (by decide)) ?_
      | refine step_pure rfl (pure_shr rfl rfl (by decide)) ?_
      | refine step_pure rfl (pure_conv rfl rfl rfl rfl) ?_
      | refine step_pure rfl (pure_nilCheck rfl) ?_
      | refine step_pure rfl (pure_not rfl) ?_
      | refine step_pure rfl (pure_extract rfl rfl) ?_
      | refine step_pure rfl (pure_max rfl rfl) ?_
      | refine step_pure rfl (pure_min rfl rfl) ?_
      | refine step_pure rfl (pure_ix rfl rfl rfl rfl rfl (by decide) (by decide) rfl) ?_
      | refine step_pure rfl (pure_assign rfl) ?_
      | refine step_nil ?_
      | refine c_seq ?_
      | refine c_region ?_
      | refine c_block ?_
    exact ⟨i + 1, hlt, by omega, less_of ⟨rfl, rfl, rfl, trivial⟩ rfl⟩
  · have hi16 : i = 16 := by have := of_decide_eq_false h; omega
    clear h
    have hK0 : awK i = K0 := by rw [hi16]; exact aw_end.1
    have hB0 : awB i = B0 := by rw [hi16]; exact aw_end.2
    have hKb : Bytes K0 := by intro x hx; simp [K0] at hx; omega
    have hBb : Bytes B0 := by intro x hx; simp [B0] at hx; omega
    have hXl := blkF_len boxT (expF boxT K0) B0 rfl
    have hYl := expF_len boxT K0 rfl
    obtain ⟨hX0, hX1, hX15⟩ := Prod.mk.injEq .. ▸ (Prod.mk.injEq .. ▸ k0_block)
    obtain ⟨hY0, hY15⟩ := Prod.mk.injEq .. ▸ k0_keys
    have h9 : ∀ w, Gives tb 9 [.agg (row K0).toArray, .agg (row B0).toArray] w (.agg (row (blkF boxT (expF boxT K0) B0)).toArray) := fun w => ablock_any K0 B0 w rfl hKb rfl hBb
    have h11 : ∀ w, Gives tb 11 [.agg (row K0).toArray] w (.agg (row (expF boxT K0)).toArray) := fun w => keys_any K0 w rfl hKb
    have h13 := fun (c : Int) (bs : List Int) (v3 : Value) (w : World) (hv : SlV w v3 (row bs)) (hb : bs.length ≤ 140737488355328) => stream13 K0 (zeros 8) bs c v3 w rfl hKb rfl (Bytes.replicate 8) hv hb
    have hback := outF_back K0 (zeros 8) [1, 2, 3] 0 (Bytes.replicate 8) (by intro x hx; simp at hx; omega)
    have hol : (outF K0 (zeros 8) [1, 2, 3] 0).length = 3 := outF_len ..
    have hKl : K0.length = 16 := rfl
    have hBl : B0.length = 16 := rfl
    rw [hK0, hB0]
    clear hkl hbl hK0 hB0 hi16 hi
    generalize blkF boxT (expF boxT K0) B0 = X at hXl hX0 hX1 hX15 h9
    generalize expF boxT K0 = Y at hYl hY0 hY15 h11
    generalize hO : outF K0 (zeros 8) [1, 2, 3] 0 = O at hback hol
    generalize K0 = k0 at *
    generalize B0 = b0 at *
    refine c_exit ?_
    have hf3 : fillL (fun i => some (i * u8T.size, u8T.size)) (rowOf [.int .u8 0] (3 * u8T.size)) [(0, Value.int .u8 1), (1, Value.int .u8 2), (2, Value.int .u8 3)] = some (row [1, 2, 3]) := by
      rw [show 3 * u8T.size = 3 from rfl, rowOf_u8]; rfl
    have hld : ∀ {rs : Rs} {m : Mem} {d : Option Tmp} {ty : TypeId} {pos : String} {aft : Array Edge} {gd : Option (Nat × Bool)} (i : Nat), nth m i = some ⟨bK, row k0, 22⟩ → Vc.look rs 1 = some (.pointer (some ⟨bK, 0, none⟩)) →
        Pure tb ⟨w, [], []⟩ rs m ⟨d, .load 22 (.tmp 1), ty, pos, aft, gd⟩ (.agg (row k0).toArray) := fun i h1 h2 =>
      pure_load_agg (i := i) h2 rfl rfl h1 rfl (by simp only [row_len, hKl]; decide) (ints_whole _ _ 16 hKl)
    repeat first
      | refine step_pure rfl (hld 1 rfl rfl) ?_
      | refine step_pure rfl (pure_load_agg (i := 0) rfl rfl rfl rfl rfl (by simp only [row_len, hBl]; decide) (ints_whole _ _ 16 hBl)) ?_
      | refine step_gives rfl fun9 rfl (fun w _ _ => h9 w) ?_
      | refine step_alloc rfl zero22 (fun b4 => ?_)
      | refine step_store_agg 0 rfl rfl rfl (row_one _) rfl (by rw [row_len]; exact hXl) rfl rfl (by simp only [row_len, zeros_len]; decide) (splice_all (by simp only [row_len, zeros_len, hXl])) ?_
      | refine step_pure rfl (pure_move rfl) ?_
      | refine step_pure rfl (pure_add64 rfl rfl (by omega) (by omega)) ?_
      | refine step_pure rfl (pure_sub64 rfl rfl (by omega) (by omega)) ?_
      | refine step_pure rfl (pure_mul64 rfl rfl (by omega) (by omega)) ?_
      | refine step_pure rfl (pure_rem_pos rfl rfl (by omega) (by decide)) ?_
      | refine step_pure rfl (pure_lss rfl rfl) ?_
      | refine step_pure rfl (pure_leq rfl rfl) ?_
      | refine step_pure rfl (pure_gtr rfl rfl) ?_
      | refine step_pure rfl (pure_geq rfl rfl) ?_
      | refine step_pure rfl (pure_eql rfl rfl) ?_
      | refine step_pure rfl (pure_neq rfl rfl) ?_
      | refine step_pure rfl (pure_xor rfl rfl) ?_
      | refine step_pure rfl (pure_and rfl rfl) ?_
      | refine step_pure rfl (pure_or rfl rfl) ?_
      | refine step_pure rfl (pure_shl rfl rfl (by decide)) ?_
      | refine step_pure rfl (pure_shr rfl rfl (by decide)) ?_
      | refine step_pure rfl (pure_conv rfl rfl rfl rfl) ?_
      | refine step_pure rfl (pure_nilCheck rfl) ?_
      | refine step_pure rfl (pure_not rfl) ?_
      | refine step_pure rfl (pure_extract rfl rfl) ?_
      | refine step_pure rfl (pure_max rfl rfl) ?_
      | refine step_pure rfl (pure_min rfl rfl) ?_
      | refine step_pure rfl (pure_ix rfl rfl rfl rfl rfl (by decide) (by decide) rfl) ?_
      | refine step_pure rfl (pure_assign rfl) ?_
      | refine step_nil ?_
      | refine c_seq ?_
      | refine c_region ?_
      | refine c_block ?_
    refine step_pure rfl (hld 2 rfl rfl) ?_
    repeat first
      | refine step_gives rfl fun11 rfl (fun w _ _ => h11 w) ?_
      | refine step_alloc rfl zero25 (fun b5 => ?_)
      | refine step_store_agg 0 rfl rfl rfl (row_one _) rfl (by rw [row_len]; exact hYl) rfl rfl (by simp only [row_len, zeros_len]; decide) (splice_all (by simp only [row_len, zeros_len, hYl])) ?_
      | refine step_pure rfl (pure_move rfl) ?_
      | refine step_pure rfl (pure_add64 rfl rfl (by omega) (by omega)) ?_
      | refine step_pure rfl (pure_sub64 rfl rfl (by omega) (by omega)) ?_
      | refine step_pure rfl (pure_mul64 rfl rfl (by omega) (by omega)) ?_
      | refine step_pure rfl (pure_rem_pos rfl rfl (by omega) (by decide)) ?_
      | refine step_pure rfl (pure_lss rfl rfl) ?_
      | refine step_pure rfl (pure_leq rfl rfl) ?_
      | refine step_pure rfl (pure_gtr rfl rfl) ?_
      | refine step_pure rfl (pure_geq rfl rfl) ?_
      | refine step_pure rfl (pure_eql rfl rfl) ?_
      | refine step_pure rfl (pure_neq rfl rfl) ?_
      | refine step_pure rfl (pure_xor rfl rfl) ?_
      | refine step_pure rfl (pure_and rfl rfl) ?_
      | refine step_pure rfl (pure_or rfl rfl) ?_
      | refine step_pure rfl (pure_shl rfl rfl (by decide)) ?_
      | refine step_pure rfl (pure_shr rfl rfl (by decide)) ?_
      | refine step_pure rfl (pure_conv rfl rfl rfl rfl) ?_
      | refine step_pure rfl (pure_nilCheck rfl) ?_
      | refine step_pure rfl (pure_not rfl) ?_
      | refine step_pure rfl (pure_extract rfl rfl) ?_
      | refine step_pure rfl (pure_max rfl rfl) ?_
      | refine step_pure rfl (pure_min rfl rfl) ?_
      | refine step_pure rfl (pure_ix rfl rfl rfl rfl rfl (by decide) (by decide) rfl) ?_
      | refine step_pure rfl (pure_assign rfl) ?_
      | refine step_nil ?_
      | refine c_seq ?_
      | refine c_region ?_
      | refine c_block ?_
    refine step_pure rfl (hld 3 rfl rfl) ?_
    refine step_as rfl (pure_build_arr rfl zero28 rfl rfl rfl rfl) (show _ = Value.agg (row (zeros 8)).toArray from rfl) ?_
    refine step_buildSlice rfl rfl rfl rfl elemU8 (by decide) (by decide) hf3 (fun bt => ?_)
    refine step_makes rfl fun13 rfl (fun w hh _ => h13 0 [1, 2, 3] _ w (slv_own (j := 0) rfl (sl_built u8T 5 bt (row [1, 2, 3]) 3 rfl) hh rfl) (by decide)) ?_
    rintro v m' ⟨base1, len1, cap1, e1, rfl, rfl, hs1⟩
    have hs1 : SlIs u8T 5 e1 base1 len1 cap1 (row O) := by rw [if_neg (by decide), hO] at hs1; exact hs1
    have hl1 : len1 = 3 := by
      have := hs1.len
      rw [row_len, hol] at this
      have h1 : (3 : Nat) = len1 * 1 := this
      omega
    subst hl1
    rw [if_neg (show ¬ (0 : Int) < 0 by decide)]
    repeat first
      | refine step_pure rfl (pure_move rfl) ?_
      | refine step_pure rfl (pure_add64 rfl rfl (by omega) (by omega)) ?_
      | refine step_pure rfl (pure_sub64 rfl rfl (by omega) (by omega)) ?_
      | refine step_pure rfl (pure_mul64 rfl rfl (by omega) (by omega)) ?_
      | refine step_pure rfl (pure_rem_pos rfl rfl (by omega) (by decide)) ?_
      | refine step_pure rfl (pure_lss rfl rfl) ?_
      | refine step_pure rfl (pure_leq rfl rfl) ?_
      | refine step_pure rfl (pure_gtr rfl rfl) ?_
      | refine step_pure rfl (pure_geq rfl rfl) ?_
      | refine step_pure rfl (pure_eql rfl rfl) ?_
      | refine step_pure rfl (pure_neq rfl rfl) ?_
      | refine step_pure rfl (pure_xor rfl rfl) ?_
      | refine step_pure rfl (pure_and rfl rfl) ?_
      | refine step_pure rfl (pure_or rfl rfl) ?_
      | refine step_pure rfl (pure_shl rfl rfl (by decide)) ?_
      | refine step_pure rfl (pure_shr rfl rfl (by decide)) ?_
      | refine step_pure rfl (pure_conv rfl rfl rfl rfl) ?_
      | refine step_pure rfl (pure_nilCheck rfl) ?_
      | refine step_pure rfl (pure_not rfl) ?_
      | refine step_pure rfl (pure_extract rfl rfl) ?_
      | refine step_pure rfl (pure_max rfl rfl) ?_
      | refine step_pure rfl (pure_min rfl rfl) ?_
      | refine step_pure rfl (pure_ix rfl rfl rfl rfl rfl (by decide) (by decide) rfl) ?_
      | refine step_pure rfl (pure_assign rfl) ?_
      | refine step_nil ?_
      | refine c_seq ?_
      | refine c_region ?_
      | refine c_block ?_
    refine step_pure rfl (hld 5 rfl rfl) ?_
    refine step_as rfl (pure_build_arr rfl zero28 rfl rfl rfl rfl) (show _ = Value.agg (row (zeros 8)).toArray from rfl) ?_
    refine step_pure rfl (pure_move rfl) ?_
    refine step_makes rfl fun13 rfl (fun w hh _ => h13 0 O _ w (slv_own (j := 0) rfl hs1 hh rfl) (by rw [hol]; decide)) ?_
    rintro v m' ⟨base2, len2, cap2, e2, rfl, rfl, hs2⟩
    rw [if_neg (show ¬ (0 : Int) < 0 by decide)] at hs2 ⊢
    rw [hback] at hs2
    repeat first
      | refine step_pure rfl (pure_move rfl) ?_
      | refine step_pure rfl (pure_add64 rfl rfl (by omega) (by omega)) ?_
      | refine step_pure rfl (pure_sub64 rfl rfl (by omega) (by omega)) ?_
      | refine step_pure rfl (pure_mul64 rfl rfl (by omega) (by omega)) ?_
      | refine step_pure rfl (pure_rem_pos rfl rfl (by omega) (by decide)) ?_
      | refine step_pure rfl (pure_lss rfl rfl) ?_
      | refine step_pure rfl (pure_leq rfl rfl) ?_
      | refine step_pure rfl (pure_gtr rfl rfl) ?_
      | refine step_pure rfl (pure_geq rfl rfl) ?_
      | refine step_pure rfl (pure_eql rfl rfl) ?_
      | refine step_pure rfl (pure_neq rfl rfl) ?_
      | refine step_pure rfl (pure_xor rfl rfl) ?_
      | refine step_pure rfl (pure_and rfl rfl) ?_
      | refine step_pure rfl (pure_or rfl rfl) ?_
      | refine step_pure rfl (pure_shl rfl rfl (by decide)) ?_
      | refine step_pure rfl (pure_shr rfl rfl (by decide)) ?_
      | refine step_pure rfl (pure_conv rfl rfl rfl rfl) ?_
      | refine step_pure rfl (pure_nilCheck rfl) ?_
      | refine step_pure rfl (pure_not rfl) ?_
      | refine step_pure rfl (pure_extract rfl rfl) ?_
      | refine step_pure rfl (pure_max rfl rfl) ?_
      | refine step_pure rfl (pure_min rfl rfl) ?_
      | refine step_pure rfl (pure_ix rfl rfl rfl rfl rfl (by decide) (by decide) rfl) ?_
      | refine step_pure rfl (pure_assign rfl) ?_
      | refine step_nil ?_
      | refine c_seq ?_
      | refine c_region ?_
      | refine c_block ?_
    refine step_pure rfl (hld 6 rfl rfl) ?_
    refine step_as rfl (pure_build_arr rfl zero28 rfl rfl rfl rfl) (show _ = Value.agg (row (zeros 8)).toArray from rfl) ?_
    refine step_pure rfl (pure_move rfl) ?_
    refine step_makes rfl fun13 rfl (fun w hh _ => h13 (-1) O _ w (slv_own (j := 1) rfl hs1 hh rfl) (by rw [hol]; decide)) ?_
    rintro v m' ⟨base3, len3, cap3, e3, rfl, rfl, hs3⟩
    rw [if_pos (show (-1 : Int) < 0 by decide)]
    clear hs3
    repeat first
      | refine step_pure rfl (pure_move rfl) ?_
      | refine step_pure rfl (pure_add64 rfl rfl (by omega) (by omega)) ?_
      | refine step_pure rfl (pure_sub64 rfl rfl (by omega) (by omega)) ?_
      | refine step_pure rfl (pure_mul64 rfl rfl (by omega) (by omega)) ?_
      | refine step_pure rfl (pure_rem_pos rfl rfl (by omega) (by decide)) ?_
      | refine step_pure rfl (pure_lss rfl rfl) ?_
      | refine step_pure rfl (pure_leq rfl rfl) ?_
      | refine step_pure rfl (pure_gtr rfl rfl) ?_
      | refine step_pure rfl (pure_geq rfl rfl) ?_
      | refine step_pure rfl (pure_eql rfl rfl) ?_
      | refine step_pure rfl (pure_neq rfl rfl) ?_
      | refine step_pure rfl (pure_xor rfl rfl) ?_
      | refine step_pure rfl (pure_and rfl rfl) ?_
      | refine step_pure rfl (pure_or rfl rfl) ?_
      | refine step_pure rfl (pure_shl rfl rfl (by decide)) ?_
      | refine step_pure rfl (pure_shr rfl rfl (by decide)) ?_
      | refine step_pure rfl (pure_conv rfl rfl rfl rfl) ?_
      | refine step_pure rfl (pure_nilCheck rfl) ?_
      | refine step_pure rfl (pure_not rfl) ?_
      | refine step_pure rfl (pure_extract rfl rfl) ?_
      | refine step_pure rfl (pure_max rfl rfl) ?_
      | refine step_pure rfl (pure_min rfl rfl) ?_
      | refine step_pure rfl (pure_ix rfl rfl rfl rfl rfl (by decide) (by decide) rfl) ?_
      | refine step_pure rfl (pure_assign rfl) ?_
      | refine step_nil ?_
      | refine c_seq ?_
      | refine c_region ?_
      | refine c_block ?_
    refine step_pure rfl (pure_load (i := 5) rfl rfl rfl rfl rfl (by show (row X)[0]? = some (.int .u8 105); rw [row_get X 0 (by omega), hX0])) ?_
    refine step_as rfl (pure_eql rfl rfl) (show _ = Value.bool true from rfl) ?_
    refine step_pure rfl (pure_move rfl) ?_
    refine step_pure rfl (pure_ix rfl rfl rfl rfl rfl (by decide) (by decide) rfl) ?_
    refine step_pure rfl (pure_load (i := 5) rfl rfl rfl rfl rfl (by show (row X)[1]? = some (.int .u8 196); rw [row_get X 1 (by omega), hX1])) ?_
    refine step_as rfl (pure_eql rfl rfl) (show _ = Value.bool true from rfl) ?_
    refine step_pure rfl (pure_pick_yes rfl rfl) ?_
    refine step_pure rfl (pure_move rfl) ?_
    refine step_pure rfl (pure_ix rfl rfl rfl rfl rfl (by decide) (by decide) rfl) ?_
    refine step_pure rfl (pure_load (i := 5) rfl rfl rfl rfl rfl (by show (row X)[15]? = some (.int .u8 90); rw [row_get X 15 (by omega), hX15])) ?_
    refine step_as rfl (pure_eql rfl rfl) (show _ = Value.bool true from rfl) ?_
    refine step_pure rfl (pure_pick_yes rfl rfl) ?_
    refine step_pure rfl (pure_move rfl) ?_
    refine step_pure rfl (pure_ix rfl rfl rfl rfl rfl (by decide) (by decide) rfl) ?_
    refine step_pure rfl (pure_ix rfl rfl rfl rfl rfl (by decide) (by decide) rfl) ?_
    refine step_pure rfl (pure_load (i := 4) rfl rfl rfl rfl rfl (by show (row Y)[160]? = some (.int .u8 19); rw [row_get Y 160 (by omega), hY0])) ?_
    refine step_as rfl (pure_eql rfl rfl) (show _ = Value.bool true from rfl) ?_
    refine step_pure rfl (pure_pick_yes rfl rfl) ?_
    refine step_pure rfl (pure_move rfl) ?_
    refine step_pure rfl (pure_ix rfl rfl rfl rfl rfl (by decide) (by decide) rfl) ?_
    refine step_pure rfl (pure_ix rfl rfl rfl rfl rfl (by decide) (by decide) rfl) ?_
    refine step_pure rfl (pure_load (i := 4) rfl rfl rfl rfl rfl (by show (row Y)[175]? = some (.int .u8 197); rw [row_get Y 175 (by omega), hY15])) ?_
    refine step_as rfl (pure_eql rfl rfl) (show _ = Value.bool true from rfl) ?_
    refine step_pure rfl (pure_pick_yes rfl rfl) ?_
    refine step_pure rfl (pure_move rfl) ?_
    refine step_pure rfl (pure_move rfl) ?_
    refine step_as rfl (pure_eql rfl rfl) (show _ = Value.bool true from rfl) ?_
    refine step_pure rfl (pure_pick_yes rfl rfl) ?_
    refine step_pure rfl (pure_move rfl) ?_
    refine step_pure rfl (pure_move rfl) ?_
    refine step_as rfl (pure_eql rfl rfl) (show _ = Value.bool true from rfl) ?_
    refine step_pure rfl (pure_pick_yes rfl rfl) ?_
    refine step_pure rfl (pure_move rfl) ?_
    refine step_pure rfl (pure_move rfl) ?_
    refine step_pure rfl (pure_bytes_string (j := 1) rfl rfl rfl rfl rfl rfl rfl rfl hs2 rfl) ?_
    refine step_buildSlice rfl rfl rfl rfl elemU8 (by decide) (by decide) hf3 (fun b9 => ?_)
    refine step_pure rfl (pure_bytes_string (j := 0) rfl rfl rfl rfl rfl rfl rfl rfl (sl_built u8T 5 b9 (row [1, 2, 3]) 3 rfl) rfl) ?_
    refine step_as rfl (pure_str_eql rfl rfl) (show _ = Value.bool true from by rw [beq_self_eq_true]) ?_
    refine step_pure rfl (pure_pick_yes rfl rfl) ?_
    refine step_pure rfl (pure_move rfl) ?_
    refine step_pure rfl (pure_move rfl) ?_
    refine step_pure rfl (pure_len_slice rfl rfl rfl) ?_
    refine step_as rfl (pure_eql rfl rfl) (show _ = Value.bool true from rfl) ?_
    refine step_pure rfl (pure_pick_yes rfl rfl) ?_
    refine step_pure rfl (pure_move rfl) ?_
    refine step_pure rfl (pure_move rfl) ?_
    refine step_as rfl (pure_eql rfl rfl) (show _ = Value.bool true from rfl) ?_
    refine step_pure rfl (pure_pick_yes rfl rfl) ?_
    refine step_pure rfl (pure_assign rfl) ?_
    exact step_nil (c_ret ⟨_, res_tmp Try.results8 rfl, rfl⟩)
end Go.Proofs.Ytgpjbfedbncniaa
