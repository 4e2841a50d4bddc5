/- The reference's Stream, walked. -/
import Derived.Test.YtgpjbfedbncniaaA9
import Derived.Test.YtgpjbfedbncniaaA6
namespace Go.Proofs.Ytgpjbfedbncniaa
open Go.RowKit Go.Vc
set_option linter.unusedVariables false

/-- The reference's block to encipher, the first i of eight steps done. -/
def rxL (A : List Int) (n : Int) : Nat → List Int
  | 0 => zeros 16
  | i + 1 => ((rxL A n i).set i (A.getD i 0)).set (8 + i) (IntKind.u8.wrap (n / 2 ^ min (IntKind.u64.wrap (56 - 8 * (i : Int))).toNat IntKind.u64.bits))
theorem rxL_len (A : List Int) (n : Int) (i : Nat) : (rxL A n i).length = 16 := by
  induction i with
  | zero => exact zeros_len 16
  | succ i ih => exact (List.length_set ..).trans ((List.length_set ..).trans ih)
def rstrB (key A : List Int) (c0 : Int) (q : Nat) : List Int := rblkF (rkF key) (rxL A (ctr c0 q) 8)
def routAt (key A bs : List Int) (c : Int) (i : Nat) : Int := bits .xor .u8 (bs.getD i 0) ((rstrB key A (IntKind.u64.wrap c) (i / 16)).getD (i % 16) 0)
def routF (key A bs : List Int) (c : Int) : List Int := (List.range bs.length).map (routAt key A bs c)

structure Rx where
  i : Nat
  base : Option Addr
  cap : Nat
  e : Ent
  Z : List Int

def p14 : List Nat := [1, 9, 17, 25, 33, 41, 49, 57, 67, 73, 85, 92, 97]

set_option maxHeartbeats 2000000 in
theorem stream14 (key A bs : List Int) (c : Int) (v3 : Value) (w : World) (hkl : key.length = 16) (hkb : Bytes key) (hAl : A.length = 8) (hAb : Bytes A)
    (hv : SlV w v3 (row bs)) (hbig : bs.length ≤ 140737488355328) :
    Makes tb 14 [.agg (row key).toArray, .agg (row A).toArray, .int .i64 c, v3] w fun v m' => ∃ base len cap e,
      v = .tuple #[.slice base len cap, .int .i64 (if c < 0 then 1 else 0)] ∧ m' = [e] ∧ SlIs u8T 5 e base len cap (row (if c < 0 then [] else routF key A bs c)) := by
  obtain ⟨base0, cap0, rfl, hbase⟩ := hv.is
  rw [row_len]
  refine makes_of (fn := Try.f14) Try.func14 rfl Try.ntmps14 rfl ?_
  have hRl : ∀ q, (rstrB key A (IntKind.u64.wrap c) q).length = 16 := fun q => rblkF_len _ _ (rxL_len A _ 8)
  have hR : ∀ q w, Gives tb 10 [.agg (row key).toArray, .agg (row (rxL A (ctr (IntKind.u64.wrap c) q) 8)).toArray] w (.agg (row (rstrB key A (IntKind.u64.wrap c) q)).toArray) :=
    fun q w => rblock_any key _ w hkl (rxL_len A _ 8)
  have hro : ∀ i, routAt key A bs c i = bits .xor .u8 (bs.getD i 0) ((rstrB key A (IntKind.u64.wrap c) (i / 16)).getD (i % 16) 0) := fun _ => rfl
  have hrF : routF key A bs c = (List.range bs.length).map (routAt key A bs c) := rfl
  rw [hrF]
  generalize rstrB key A (IntKind.u64.wrap c) = RB at hRl hR hro
  generalize routAt key A bs c = ro at hro ⊢
  refine c_seq (c_region (step_box_agg rfl rfl (fun bK => step_box_agg rfl rfl (fun bA => ?_))))
  repeat first
    | refine step_pure rfl (pure_move rfl) ?_
    | refine step_pure rfl (pure_add64 rfl rfl (by omega) (by omega)) ?_
    | refine step_pure rfl (pure_sub64 rfl rfl (by omega) (by omega)) ?_
    | refine step_pure rfl (pure_mul64 rfl rfl (by omega) (by omega)) ?_
    | refine step_pure rfl (pure_rem_pos rfl rfl (by omega) (by decide)) ?_
    | refine step_pure rfl (pure_lss rfl rfl) ?_
    | refine step_pure rfl (pure_leq rfl rfl) ?_
    | refine step_pure rfl (pure_gtr rfl rfl) ?_
    | refine step_pure rfl (pure_geq rfl rfl) ?_
    | refine step_pure rfl (pure_eql rfl rfl) ?_
    | refine step_pure rfl (pure_neq rfl rfl) ?_
    | refine step_pure rfl (pure_xor rfl rfl) ?_
    | refine step_pure rfl (pure_and rfl rfl) ?_
    | refine step_pure rfl (pure_or rfl rfl) ?_
    | refine step_pure rfl (pure_shl rfl rfl (by decide)) ?_
    | refine step_pure rfl (pure_shr rfl rfl (by decide)) ?_
    | refine step_pure rfl (pure_conv rfl rfl rfl rfl) ?_
    | refine step_pure rfl (pure_nilCheck rfl) ?_
    | refine step_pure rfl (pure_not rfl) ?_
    | refine step_pure rfl (pure_extract rfl rfl) ?_
    | refine step_pure rfl (pure_max rfl rfl) ?_
    | refine step_pure rfl (pure_min rfl rfl) ?_
    | refine step_pure rfl (pure_ix rfl rfl rfl rfl rfl (by decide) (by decide) rfl) ?_
    | refine step_pure rfl (pure_assign rfl) ?_
    | refine step_nil ?_
    | refine c_seq ?_
    | refine c_region ?_
    | refine c_block ?_
  refine c_cond rfl (fun h => ?_) (fun h => ?_)
  · have hc : c < 0 := of_decide_eq_true h
    refine c_seq (c_region (step_hole ?_))
    repeat first
      | refine step_pure rfl (pure_move rfl) ?_
      | refine step_pure rfl (pure_add64 rfl rfl (by omega) (by omega)) ?_
      | refine step_pure rfl (pure_sub64 rfl rfl (by omega) (by omega)) ?_
      | refine step_pure rfl (pure_mul64 rfl rfl (by omega) (by omega)) ?_
      | refine step_pure rfl (pure_rem_pos rfl rfl (by omega) (by decide)) ?_
      | refine step_pure rfl (pure_lss rfl rfl) ?_
      | refine step_pure rfl (pure_leq rfl rfl) ?_
      | refine step_pure rfl (pure_gtr rfl rfl) ?_
      | refine step_pure rfl (pure_geq rfl rfl) ?_
      | refine step_pure rfl (pure_eql rfl rfl) ?_
      | refine step_pure rfl (pure_neq rfl rfl) ?_
      | refine step_pure rfl (pure_xor rfl rfl) ?_
      | refine step_pure rfl (pure_and rfl rfl) ?_
      | refine step_pure rfl (pure_or rfl rfl) ?_
      | refine step_pure rfl (pure_shl rfl rfl (by decide)) ?_
      | refine step_pure rfl (pure_shr rfl rfl (by decide)) ?_
      | refine step_pure rfl (pure_conv rfl rfl rfl rfl) ?_
      | refine step_pure rfl (pure_nilCheck rfl) ?_
      | refine step_pure rfl (pure_not rfl) ?_
      | refine step_pure rfl (pure_extract rfl rfl) ?_
      | refine step_pure rfl (pure_max rfl rfl) ?_
      | refine step_pure rfl (pure_min rfl rfl) ?_
      | refine step_pure rfl (pure_ix rfl rfl rfl rfl rfl (by decide) (by decide) rfl) ?_
      | refine step_pure rfl (pure_assign rfl) ?_
      | refine step_nil ?_
      | refine c_seq ?_
      | refine c_region ?_
      | refine c_block ?_
    refine c_ret ⟨_, res_tmp2 Try.results14 rfl rfl, [hole], ?_, none, 0, 0, hole, ?_, rfl, ?_⟩
    · exact List.Sublist.cons_cons _ (List.nil_sublist _)
    · rw [if_pos hc]
    · rw [if_pos hc]; exact sl_nil _ _ (by decide)
  · have hc : ¬ c < 0 := of_decide_eq_false h
    clear h
    rw [if_neg hc, if_neg hc]
    refine c_skip ?_
    repeat first
      | refine step_as rfl (pure_build_arr rfl zero22 rfl rfl rfl rfl) (show _ = Value.agg (row (zeros 16)).toArray from rfl) ?_
      | refine step_alloc rfl zero22 (fun bB => ?_)
      | refine step_store_agg 0 rfl rfl rfl (row_one _) rfl rfl rfl rfl (by simp only [row_len, zeros_len]; decide) (splice_all rfl) (step_hole ?_)
      | refine step_pure rfl (pure_move rfl) ?_
      | refine step_pure rfl (pure_add64 rfl rfl (by omega) (by omega)) ?_
      | refine step_pure rfl (pure_sub64 rfl rfl (by omega) (by omega)) ?_
      | refine step_pure rfl (pure_mul64 rfl rfl (by omega) (by omega)) ?_
      | refine step_pure rfl (pure_rem_pos rfl rfl (by omega) (by decide)) ?_
      | refine step_pure rfl (pure_lss rfl rfl) ?_
      | refine step_pure rfl (pure_leq rfl rfl) ?_
      | refine step_pure rfl (pure_gtr rfl rfl) ?_
      | refine step_pure rfl (pure_geq rfl rfl) ?_
      | refine step_pure rfl (pure_eql rfl rfl) ?_
      | refine step_pure rfl (pure_neq rfl rfl) ?_
      | refine step_pure rfl (pure_xor rfl rfl) ?_
      | refine step_pure rfl (pure_and rfl rfl) ?_
      | refine step_pure rfl (pure_or rfl rfl) ?_
      | refine step_pure rfl (pure_shl rfl rfl (by decide)) ?_
      | refine step_pure rfl (pure_shr rfl rfl (by decide)) ?_
      | refine step_pure rfl (pure_conv rfl rfl rfl rfl) ?_
      | refine step_pure rfl (pure_nilCheck rfl) ?_
      | refine step_pure rfl (pure_not rfl) ?_
      | refine step_pure rfl (pure_extract rfl rfl) ?_
      | refine step_pure rfl (pure_max rfl rfl) ?_
      | refine step_pure rfl (pure_min rfl rfl) ?_
      | refine step_pure rfl (pure_ix rfl rfl rfl rfl rfl (by decide) (by decide) rfl) ?_
      | refine step_pure rfl (pure_assign rfl) ?_
      | refine step_nil ?_
      | refine c_seq ?_
      | refine c_region ?_
      | refine c_block ?_
    obtain ⟨c0, hcc⟩ : ∃ c0, c0 = IntKind.u64.wrap c := ⟨_, rfl⟩
    rw [← hcc] at hR ⊢
    refine c_loop (α := Rx) (fun x => [(3, .slice base0 bs.length cap0), (4, .pointer (some ⟨bK, 0, none⟩)), (5, .pointer (some ⟨bA, 0, none⟩)), (10, .slice x.base x.i x.cap), (11, .int .u64 (ctr c0 ((x.i + 15) / 16))), (12, .pointer (some ⟨bB, 0, none⟩)), (13, .int .i64 x.i)])
      (fun x => [x.e, ⟨bB, row x.Z, 22⟩, ⟨bA, row A, 28⟩, ⟨bK, row key, 22⟩])
      (fun x => x.i ≤ bs.length ∧ SlIs u8T 5 x.e x.base x.i x.cap (row ((List.range x.i).map ro)) ∧ x.Z.length = 16 ∧ (x.i % 16 ≠ 0 → x.Z = RB (x.i / 16)))
      (fun x => bs.length - x.i) ⟨0, none, 0, hole, zeros 16⟩ ⟨Nat.zero_le _, sl_nil _ _ (by decide), zeros_len 16, fun h => absurd rfl h⟩ (less_of ⟨rfl, rfl, rfl, rfl, rfl, rfl, rfl, trivial⟩ rfl) ?_
    rintro ⟨i, base, cap, e, Z⟩ ⟨hi, hs, hZ, hZq⟩
    dsimp only at hi hs hZ hZq ⊢
    repeat first
      | refine step_pure rfl (pure_len_slice rfl rfl rfl) ?_
      | refine step_pure rfl (pure_move rfl) ?_
      | refine step_pure rfl (pure_add64 rfl rfl (by omega) (by omega)) ?_
      | refine step_pure rfl (pure_sub64 rfl rfl (by omega) (by omega)) ?_
      | refine step_pure rfl (pure_mul64 rfl rfl (by omega) (by omega)) ?_
      | refine step_pure rfl (pure_rem_pos rfl rfl (by omega) (by decide)) ?_
      | refine step_pure rfl (pure_lss rfl rfl) ?_
      | refine step_pure rfl (pure_leq rfl rfl) ?_
      | refine step_pure rfl (pure_gtr rfl rfl) ?_
      | refine step_pure rfl (pure_geq rfl rfl) ?_
      | refine step_pure rfl (pure_eql rfl rfl) ?_
      | refine step_pure rfl (pure_neq rfl rfl) ?_
      | refine step_pure rfl (pure_xor rfl rfl) ?_
      | refine step_pure rfl (pure_and rfl rfl) ?_
      | refine step_pure rfl (pure_or rfl rfl) ?_
      | refine step_pure rfl (pure_shl rfl rfl (by decide)) ?_
      | refine step_pure rfl (pure_shr rfl rfl (by decide)) ?_
      | refine step_pure rfl (pure_conv rfl rfl rfl rfl) ?_
      | refine step_pure rfl (pure_nilCheck rfl) ?_
      | refine step_pure rfl (pure_not rfl) ?_
      | refine step_pure rfl (pure_extract rfl rfl) ?_
      | refine step_pure rfl (pure_max rfl rfl) ?_
      | refine step_pure rfl (pure_min rfl rfl) ?_
      | refine step_pure rfl (pure_ix rfl rfl rfl rfl rfl (by decide) (by decide) rfl) ?_
      | refine step_pure rfl (pure_assign rfl) ?_
      | refine step_nil ?_
      | refine c_seq ?_
      | refine c_region ?_
      | refine c_block ?_
    refine c_cond rfl (fun h => ?_) (fun h => ?_)
    · have hlt : i < bs.length := by have := of_decide_eq_true h; omega
      clear h
      obtain ⟨p, rfl, hcells⟩ := hbase (by
        intro h
        have := row_len bs
        rw [h] at this
        simp at this
        omega)
      refine c_skip ?_
      repeat first
        | refine step_pure rfl (pure_move rfl) ?_
        | refine step_pure rfl (pure_add64 rfl rfl (by omega) (by omega)) ?_
        | refine step_pure rfl (pure_sub64 rfl rfl (by omega) (by omega)) ?_
        | refine step_pure rfl (pure_mul64 rfl rfl (by omega) (by omega)) ?_
        | refine step_pure rfl (pure_rem_pos rfl rfl (by omega) (by decide)) ?_
        | refine step_pure rfl (pure_lss rfl rfl) ?_
        | refine step_pure rfl (pure_leq rfl rfl) ?_
        | refine step_pure rfl (pure_gtr rfl rfl) ?_
        | refine step_pure rfl (pure_geq rfl rfl) ?_
        | refine step_pure rfl (pure_eql rfl rfl) ?_
        | refine step_pure rfl (pure_neq rfl rfl) ?_
        | refine step_pure rfl (pure_xor rfl rfl) ?_
        | refine step_pure rfl (pure_and rfl rfl) ?_
        | refine step_pure rfl (pure_or rfl rfl) ?_
        | refine step_pure rfl (pure_shl rfl rfl (by decide)) ?_
        | refine step_pure rfl (pure_shr rfl rfl (by decide)) ?_
        | refine step_pure rfl (pure_conv rfl rfl rfl rfl) ?_
        | refine step_pure rfl (pure_nilCheck rfl) ?_
        | refine step_pure rfl (pure_not rfl) ?_
        | refine step_pure rfl (pure_extract rfl rfl) ?_
        | refine step_pure rfl (pure_max rfl rfl) ?_
        | refine step_pure rfl (pure_min rfl rfl) ?_
        | refine step_pure rfl (pure_ix rfl rfl rfl rfl rfl (by decide) (by decide) rfl) ?_
        | refine step_pure rfl (pure_assign rfl) ?_
        | refine step_nil ?_
        | refine c_seq ?_
        | refine c_region ?_
        | refine c_block ?_
      refine c_meet [(3, .slice (some p) bs.length cap0), (4, .pointer (some ⟨bK, 0, none⟩)), (5, .pointer (some ⟨bA, 0, none⟩)), (10, .slice base i cap), (11, .int .u64 (ctr c0 (i / 16 + 1))), (12, .pointer (some ⟨bB, 0, none⟩)), (13, .int .i64 i)]
        [e, ⟨bB, row (RB (i / 16)), 22⟩, ⟨bA, row A, 28⟩, ⟨bK, row key, 22⟩] ?_ ?_
      · refine c_cond rfl (fun h => ?_) (fun h => ?_)
        · have hm : i % 16 = 0 := by have := eq_of_beq h; omega
          have e1 : (i + 15) / 16 = i / 16 := by omega
          rw [e1]
          clear h hZq
          generalize i / 16 = q
          repeat first
            | refine step_as rfl (pure_build_arr rfl zero22 rfl rfl rfl rfl) (show _ = Value.agg (row (zeros 16)).toArray from rfl) ?_
            | refine step_alloc rfl zero22 (fun bX => ?_)
            | refine step_store_agg 0 rfl rfl rfl (row_one _) rfl rfl rfl rfl (by simp only [row_len, zeros_len]; decide) (splice_all rfl) ?_
            | refine step_pure rfl (pure_move rfl) ?_
            | refine step_pure rfl (pure_add64 rfl rfl (by omega) (by omega)) ?_
            | refine step_pure rfl (pure_sub64 rfl rfl (by omega) (by omega)) ?_
            | refine step_pure rfl (pure_mul64 rfl rfl (by omega) (by omega)) ?_
            | refine step_pure rfl (pure_rem_pos rfl rfl (by omega) (by decide)) ?_
            | refine step_pure rfl (pure_lss rfl rfl) ?_
            | refine step_pure rfl (pure_leq rfl rfl) ?_
            | refine step_pure rfl (pure_gtr rfl rfl) ?_
            | refine step_pure rfl (pure_geq rfl rfl) ?_
            | refine step_pure rfl (pure_eql rfl rfl) ?_
            | refine step_pure rfl (pure_neq rfl rfl) ?_
            | refine step_pure rfl (pure_xor rfl rfl) ?_
            | refine step_pure rfl (pure_and rfl rfl) ?_
            | refine step_pure rfl (pure_or rfl rfl) ?_
            | refine step_pure rfl (pure_shl rfl rfl (by decide)) ?_
            | refine step_pure rfl (pure_shr rfl rfl (by decide)) ?_
            | refine step_pure rfl (pure_conv rfl rfl rfl rfl) ?_
            | refine step_pure rfl (pure_nilCheck rfl) ?_
            | refine step_pure rfl (pure_not rfl) ?_
            | refine step_pure rfl (pure_extract rfl rfl) ?_
            | refine step_pure rfl (pure_max rfl rfl) ?_
            | refine step_pure rfl (pure_min rfl rfl) ?_
            | refine step_pure rfl (pure_ix rfl rfl rfl rfl rfl (by decide) (by decide) rfl) ?_
            | refine step_pure rfl (pure_assign rfl) ?_
            | refine step_nil ?_
            | refine c_seq ?_
            | refine c_region ?_
            | refine c_block ?_
          refine c_loop (α := Nat) (fun k => [(3, .slice (some p) bs.length cap0), (4, .pointer (some ⟨bK, 0, none⟩)), (5, .pointer (some ⟨bA, 0, none⟩)), (10, .slice base i cap), (11, .int .u64 (ctr c0 q)), (12, .pointer (some ⟨bB, 0, none⟩)), (13, .int .i64 i), (14, .pointer (some ⟨bX, 0, none⟩)), (15, .int .i64 k)])
            (fun k => [⟨bX, row (rxL A (ctr c0 q) k), 22⟩, e, ⟨bB, row Z, 22⟩, ⟨bA, row A, 28⟩, ⟨bK, row key, 22⟩]) (fun k => k ≤ 8) (fun k => 8 - k) 0 (by decide) (less_of ⟨rfl, rfl, rfl, rfl, rfl, rfl, rfl, rfl, rfl, trivial⟩ rfl) ?_
          intro k hk
          have hxl := rxL_len A (ctr c0 q) k
          repeat first
            | refine step_pure rfl (pure_move rfl) ?_
            | refine step_pure rfl (pure_add64 rfl rfl (by omega) (by omega)) ?_
            | refine step_pure rfl (pure_sub64 rfl rfl (by omega) (by omega)) ?_
            | refine step_pure rfl (pure_mul64 rfl rfl (by omega) (by omega)) ?_
            | refine step_pure rfl (pure_rem_pos rfl rfl (by omega) (by decide)) ?_
            | refine step_pure rfl (pure_lss rfl rfl) ?_
            | refine step_pure rfl (pure_leq rfl rfl) ?_
            | refine step_pure rfl (pure_gtr rfl rfl) ?_
            | refine step_pure rfl (pure_geq rfl rfl) ?_
            | refine step_pure rfl (pure_eql rfl rfl) ?_
            | refine step_pure rfl (pure_neq rfl rfl) ?_
            | refine step_pure rfl (pure_xor rfl rfl) ?_
            | refine step_pure rfl (pure_and rfl rfl) ?_
            | refine step_pure rfl (pure_or rfl rfl) ?_
            | refine step_pure rfl (pure_shl rfl rfl (by decide)) ?_
            | refine step_pure rfl (pure_shr rfl rfl (by decide)) ?_
            | refine step_pure rfl (pure_conv rfl rfl rfl rfl) ?_
            | refine step_pure rfl (pure_nilCheck rfl) ?_
            | refine step_pure rfl (pure_not rfl) ?_
            | refine step_pure rfl (pure_extract rfl rfl) ?_
            | refine step_pure rfl (pure_max rfl rfl) ?_
            | refine step_pure rfl (pure_min rfl rfl) ?_
            | refine step_pure rfl (pure_ix rfl rfl rfl rfl rfl (by decide) (by decide) rfl) ?_
            | refine step_pure rfl (pure_assign rfl) ?_
            | refine step_nil ?_
            | refine c_seq ?_
            | refine c_region ?_
            | refine c_block ?_
          refine c_cond rfl (fun h => ?_) (fun h => ?_)
          · have hk8 : k < 8 := by have := of_decide_eq_true h; omega
            clear h
            refine c_skip ?_
            repeat first
              | refine step_pure rfl (pure_ix (off' := k) rfl rfl rfl rfl rfl (by omega) (by omega) (by show 0 + (k : Int).toNat * 1 = _; omega)) ?_
              | refine step_pure rfl (pure_ix (off' := 8 + k) rfl rfl rfl rfl rfl (by omega) (by omega) (by show 0 + (8 + (k : Int)).toNat * 1 = _; omega)) ?_
              | refine step_pure rfl (pure_load (i := 3) rfl rfl rfl rfl rfl (row_get _ _ (by omega))) ?_
              | refine step_pure rfl (pure_shr rfl rfl (u64_nat _)) ?_
              | refine step_store 0 rfl rfl rfl rfl rfl rfl rfl rfl (by simp only [ints_len, List.length_set, hxl] <;> omega) (row_set _ _ _) ?_
              | refine step_pure rfl (pure_move rfl) ?_
              | refine step_pure rfl (pure_add64 rfl rfl (by omega) (by omega)) ?_
              | refine step_pure rfl (pure_sub64 rfl rfl (by omega) (by omega)) ?_
              | refine step_pure rfl (pure_mul64 rfl rfl (by omega) (by omega)) ?_
              | refine step_pure rfl (pure_rem_pos rfl rfl (by omega) (by decide)) ?_
              | refine step_pure rfl (pure_lss rfl rfl) ?_
              | refine step_pure rfl (pure_leq rfl rfl) ?_
              | refine step_pure rfl (pure_gtr rfl rfl) ?_
              | refine step_pure rfl (pure_geq rfl rfl) ?_
              | refine step_pure rfl (pure_eql rfl rfl) ?_
              | refine step_pure rfl (pure_neq rfl rfl) ?_
              | refine step_pure rfl (pure_xor rfl rfl) ?_
              | refine step_pure rfl (pure_and rfl rfl) ?_
              | refine step_pure rfl (pure_or rfl rfl) ?_
              | refine step_pure rfl (pure_shl rfl rfl (by decide)) ?_
              | refine step_pure rfl (pure_shr rfl rfl (by decide)) ?_
              | refine step_pure rfl (pure_conv rfl rfl rfl rfl) ?_
              | refine step_pure rfl (pure_nilCheck rfl) ?_
              | refine step_pure rfl (pure_not rfl) ?_
              | refine step_pure rfl (pure_extract rfl rfl) ?_
              | refine step_pure rfl (pure_max rfl rfl) ?_
              | refine step_pure rfl (pure_min rfl rfl) ?_
              | refine step_pure rfl (pure_ix rfl rfl rfl rfl rfl (by decide) (by decide) rfl) ?_
              | refine step_pure rfl (pure_assign rfl) ?_
              | refine step_nil ?_
              | refine c_seq ?_
              | refine c_region ?_
              | refine c_block ?_
            exact ⟨k + 1, hk8, by omega, less_of ⟨rfl, rfl, rfl, rfl, rfl, rfl, rfl, rfl, rfl, trivial⟩ rfl⟩
          · have hk8 : k = 8 := by have := of_decide_eq_false h; omega
            clear h
            have hR' : ∀ w, Gives tb 10 [.agg (row key).toArray, .agg (row (rxL A (ctr c0 q) k)).toArray] w (.agg (row (RB q)).toArray) := by rw [hk8]; exact hR q
            have hRq := hRl q
            clear hR hRl hk8 hk
            generalize rxL A (ctr c0 q) k = x at hxl hR' ⊢
            refine c_exit ?_
            repeat first
              | refine step_pure rfl (pure_load_agg (i := 4) rfl rfl rfl rfl rfl (by simp only [row_len, hkl]; decide) (ints_whole _ _ 16 hkl)) ?_
              | refine step_pure rfl (pure_load_agg (i := 0) rfl rfl rfl rfl rfl (by simp only [row_len, hxl]; decide) (ints_whole _ _ 16 hxl)) ?_
              | refine step_gives rfl fun10 rfl (fun w _ _ => hR' w) ?_
              | refine step_store_agg 2 rfl rfl rfl (row_one _) rfl (by rw [row_len]; exact hRq) rfl rfl (by simp only [row_len, hZ]; decide) (splice_all (by rw [row_len, row_len, hRq, hZ])) ?_
              | refine step_pure rfl (pure_add rfl rfl) ?_
              | refine step_pure rfl (pure_move rfl) ?_
              | refine step_pure rfl (pure_add64 rfl rfl (by omega) (by omega)) ?_
              | refine step_pure rfl (pure_sub64 rfl rfl (by omega) (by omega)) ?_
              | refine step_pure rfl (pure_mul64 rfl rfl (by omega) (by omega)) ?_
              | refine step_pure rfl (pure_rem_pos rfl rfl (by omega) (by decide)) ?_
              | refine step_pure rfl (pure_lss rfl rfl) ?_
              | refine step_pure rfl (pure_leq rfl rfl) ?_
              | refine step_pure rfl (pure_gtr rfl rfl) ?_
              | refine step_pure rfl (pure_geq rfl rfl) ?_
              | refine step_pure rfl (pure_eql rfl rfl) ?_
              | refine step_pure rfl (pure_neq rfl rfl) ?_
              | refine step_pure rfl (pure_xor rfl rfl) ?_
              | refine step_pure rfl (pure_and rfl rfl) ?_
              | refine step_pure rfl (pure_or rfl rfl) ?_
              | refine step_pure rfl (pure_shl rfl rfl (by decide)) ?_
              | refine step_pure rfl (pure_shr rfl rfl (by decide)) ?_
              | refine step_pure rfl (pure_conv rfl rfl rfl rfl) ?_
              | refine step_pure rfl (pure_nilCheck rfl) ?_
              | refine step_pure rfl (pure_not rfl) ?_
              | refine step_pure rfl (pure_extract rfl rfl) ?_
              | refine step_pure rfl (pure_max rfl rfl) ?_
              | refine step_pure rfl (pure_min rfl rfl) ?_
              | refine step_pure rfl (pure_ix rfl rfl rfl rfl rfl (by decide) (by decide) rfl) ?_
              | refine step_pure rfl (pure_assign rfl) ?_
              | refine step_nil ?_
              | refine c_seq ?_
              | refine c_region ?_
              | refine c_block ?_
            exact less_sub ⟨rfl, rfl, rfl, rfl, rfl, rfl, rfl, trivial⟩ (List.Sublist.cons _ (List.Sublist.refl _))
        · have hm : i % 16 ≠ 0 := by
            intro h0
            rw [show ((i : Int) % 16) = 0 by omega] at h
            exact absurd h (by decide)
          have e2 : (i + 15) / 16 = i / 16 + 1 := by omega
          rw [e2, hZq hm]
          exact c_skip (less_of ⟨rfl, rfl, rfl, rfl, rfl, rfl, rfl, trivial⟩ rfl)
      have hget := row_get bs i hlt
      have hBk := hcells i _ hget
      have hq := hRl (i / 16)
      have hroi := hro i
      refine d_region p14 follows (by kernel_rfl) ?_
      refine d_pure0 rfl rfl rfl (pure_move rfl) ?_
      refine d_pure0 rfl rfl rfl (pure_move rfl) ?_
      refine d_pure0 rfl rfl rfl (pure_move rfl) ?_
      refine d_as0 rfl rfl rfl (pure_indexAddr_at rfl rfl rfl rfl rfl (by omega) (by omega)) (show _ = Value.pointer (some (p.add i)) from by rw [Int.toNat_natCast]; exact congrArg (fun j => Value.pointer (some (p.add j))) (Nat.mul_one i)) ?_
      refine d_pure0 rfl rfl rfl (pure_view_at rfl rfl rfl hBk (by simp)) ?_
      refine d_pure0 rfl rfl rfl (pure_move rfl) ?_
      refine d_pure0 rfl rfl rfl (pure_rem_pos rfl rfl (by omega) (by decide)) ?_
      refine d_pure0 rfl rfl rfl (pure_ix (off' := i % 16) rfl rfl rfl rfl rfl (by omega) (by omega) (by show 0 + ((i : Int) % 16).toNat * 1 = _; omega)) ?_
      refine d_pure1 rfl rfl rfl (pure_load (i := 1) rfl rfl rfl rfl rfl (row_get _ _ (by omega))) (SubMem.refl _) ?_
      refine d_as0 rfl rfl rfl (pure_xor rfl rfl) (show _ = Value.int .u8 (ro i) from by rw [hroi]) ?_
      have hfill : fillL (fun i => some (i * u8T.size, u8T.size)) (rowOf [.int .u8 0] (1 * u8T.size)) [(0, Value.int .u8 (ro i))] = some [Value.int .u8 (ro i)] := by
        rw [show 1 * u8T.size = 1 from rfl, rowOf_u8]; rfl
      refine d_buildSlice rfl rfl rfl rfl rfl rfl elemU8 (by decide) (by decide) hfill (SubMem.refl _) rfl (fun bt => ?_)
      refine d_append 1 rfl rfl rfl rfl rfl hs rfl rfl rfl rfl rfl elemU8 rfl (by decide) rfl rfl rfl
        (src_own (j := 0) (sl_built u8T 5 bt [Value.int .u8 (ro i)] 1 rfl) rfl) (by intro v hv; simp at hv; subst hv; rfl) (by omega) (by omega) rfl (fun base' cap' e' hs' => ?_)
      refine d_pure0 rfl rfl rfl (pure_assign rfl) ?_
      refine d_nil ?_
      have hs2 : SlIs u8T 5 e' base' (i + 1) cap' (row ((List.range (i + 1)).map ro)) := by
        have : row ((List.range (i + 1)).map ro) = row ((List.range i).map ro) ++ [Value.int .u8 (ro i)] := by simp [ints, List.range_succ]
        rw [this]; exact hs'
      repeat first
        | refine step_pure rfl (pure_move rfl) ?_
        | refine step_pure rfl (pure_add64 rfl rfl (by omega) (by omega)) ?_
        | refine step_pure rfl (pure_sub64 rfl rfl (by omega) (by omega)) ?_
        | refine step_pure rfl (pure_mul64 rfl rfl (by omega) (by omega)) ?_
        | refine step_pure rfl (pure_rem_pos rfl rfl (by omega) (by decide)) ?_
        | refine step_pure rfl (pure_lss rfl rfl) ?_
        | refine step_pure rfl (pure_leq rfl rfl) ?_
        | refine step_pure rfl (pure_gtr rfl rfl) ?_
        | refine step_pure rfl (pure_geq rfl rfl) ?_
        | refine step_pure rfl (pure_eql rfl rfl) ?_
        | refine step_pure rfl (pure_neq rfl rfl) ?_
        | refine step_pure rfl (pure_xor rfl rfl) ?_
        | refine step_pure rfl (pure_and rfl rfl) ?_
        | refine step_pure rfl (pure_or rfl rfl) ?_
        | refine step_pure rfl (pure_shl rfl rfl (by decide)) ?_
        | refine step_pure rfl (pure_shr rfl rfl (by decide)) ?_
        | refine step_pure rfl (pure_conv rfl rfl rfl rfl) ?_
        | refine step_pure rfl (pure_nilCheck rfl) ?_
        | refine step_pure rfl (pure_not rfl) ?_
        | refine step_pure rfl (pure_extract rfl rfl) ?_
        | refine step_pure rfl (pure_max rfl rfl) ?_
        | refine step_pure rfl (pure_min rfl rfl) ?_
        | refine step_pure rfl (pure_ix rfl rfl rfl rfl rfl (by decide) (by decide) rfl) ?_
        | refine step_pure rfl (pure_assign rfl) ?_
        | refine step_nil ?_
        | refine c_seq ?_
        | refine c_region ?_
        | refine c_block ?_
      refine ⟨⟨i + 1, base', cap', e', RB (i / 16)⟩, ⟨hlt, hs2, hq, fun h => ?_⟩, by show bs.length - (i + 1) < bs.length - i; omega, ?_⟩
      · show RB (i / 16) = RB ((i + 1) / 16)
        have h' : (i + 1) % 16 ≠ 0 := h
        rw [show (i + 1) / 16 = i / 16 by omega]
      · dsimp only
        rw [show (i + 1 + 15) / 16 = i / 16 + 1 by omega]
        exact less_sub ⟨rfl, rfl, rfl, rfl, rfl, rfl, rfl, trivial⟩ (List.Sublist.cons _ (List.Sublist.refl _))
    · have hil : i = bs.length := by have := of_decide_eq_false h; omega
      clear h
      refine c_exit ?_
      repeat first
        | refine step_pure rfl (pure_move rfl) ?_
        | refine step_pure rfl (pure_add64 rfl rfl (by omega) (by omega)) ?_
        | refine step_pure rfl (pure_sub64 rfl rfl (by omega) (by omega)) ?_
        | refine step_pure rfl (pure_mul64 rfl rfl (by omega) (by omega)) ?_
        | refine step_pure rfl (pure_rem_pos rfl rfl (by omega) (by decide)) ?_
        | refine step_pure rfl (pure_lss rfl rfl) ?_
        | refine step_pure rfl (pure_leq rfl rfl) ?_
        | refine step_pure rfl (pure_gtr rfl rfl) ?_
        | refine step_pure rfl (pure_geq rfl rfl) ?_
        | refine step_pure rfl (pure_eql rfl rfl) ?_
        | refine step_pure rfl (pure_neq rfl rfl) ?_
        | refine step_pure rfl (pure_xor rfl rfl) ?_
        | refine step_pure rfl (pure_and rfl rfl) ?_
        | refine step_pure rfl (pure_or rfl rfl) ?_
        | refine step_pure rfl (pure_shl rfl rfl (by decide)) ?_
        | refine step_pure rfl (pure_shr rfl rfl (by decide)) ?_
        | refine step_pure rfl (pure_conv rfl rfl rfl rfl) ?_
        | refine step_pure rfl (pure_nilCheck rfl) ?_
        | refine step_pure rfl (pure_not rfl) ?_
        | refine step_pure rfl (pure_extract rfl rfl) ?_
        | refine step_pure rfl (pure_max rfl rfl) ?_
        | refine step_pure rfl (pure_min rfl rfl) ?_
        | refine step_pure rfl (pure_ix rfl rfl rfl rfl rfl (by decide) (by decide) rfl) ?_
        | refine step_pure rfl (pure_assign rfl) ?_
        | refine step_nil ?_
        | refine c_seq ?_
        | refine c_region ?_
        | refine c_block ?_
      subst hil
      exact c_ret ⟨_, res_tmp2 Try.results14 rfl rfl, [e], List.Sublist.cons_cons _ (List.nil_sublist _), _, _, _, e, rfl, rfl, hs⟩
end Go.Proofs.Ytgpjbfedbncniaa
