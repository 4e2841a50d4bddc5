/- The program's Stream, walked. -/
import Derived.Test.YtgpjbfedbncniaaA8
namespace Go.Proofs.Ytgpjbfedbncniaa
open Go.RowKit Go.Vc
set_option linter.unusedVariables false

def u8T : Ty := ⟨.int .u8, 1, false⟩
theorem elemU8 : ElemIs tb 5 u8T 1 [.int .u8 0] := elem5

theorem stream21 (key A : List Int) (c : Int) (w : World) :
    Makes tb 21 [.agg (row key).toArray, .agg (row A).toArray, .int .i64 c] w fun v m' => ∃ pK pF pA,
      v = .func (.func 24) #[] #[.pointer (some ⟨pK, 0, none⟩), .pointer (some ⟨pF, 0, none⟩), .pointer (some ⟨pA, 0, none⟩)] ∧
      m' = [⟨pF, [.int .i64 c], 3⟩, ⟨pA, row A, 28⟩, ⟨pK, row key, 22⟩] := by
  refine makes_of (fn := Try.f21) Try.func21 rfl Try.ntmps21 rfl ?_
  repeat first
    | refine step_box_agg rfl rfl (fun pK => ?_)
    | refine step_box rfl rfl rfl (fun pF => ?_)
    | refine step_pure rfl (pure_makeFunc rfl) ?_
    | refine step_pure rfl (pure_move rfl) ?_
    | refine step_pure rfl (pure_add64 rfl rfl (by omega) (by omega)) ?_
    | refine step_pure rfl (pure_sub64 rfl rfl (by omega) (by omega)) ?_
    | refine step_pure rfl (pure_mul64 rfl rfl (by omega) (by omega)) ?_
    | refine step_pure rfl (pure_rem_pos rfl rfl (by omega) (by decide)) ?_
    | refine step_pure rfl (pure_lss rfl rfl) ?_
    | refine step_pure rfl (pure_leq rfl rfl) ?_
    | refine step_pure rfl (pure_gtr rfl rfl) ?_
    | refine step_pure rfl (pure_geq rfl rfl) ?_
    | refine step_pure rfl (pure_eql rfl rfl) ?_
    | refine step_pure rfl (pure_neq rfl rfl) ?_
    | refine step_pure rfl (pure_xor rfl rfl) ?_
    | refine step_pure rfl (pure_and rfl rfl) ?_
    | refine step_pure rfl (pure_or rfl rfl) ?_
    | refine step_pure rfl (pure_shl rfl rfl (by decide)) ?_
    | refine step_pure rfl (pure_shr rfl rfl (by decide)) ?_
    | refine step_pure rfl (pure_conv rfl rfl rfl rfl) ?_
    | refine step_pure rfl (pure_nilCheck rfl) ?_
    | refine step_pure rfl (pure_not rfl) ?_
    | refine step_pure rfl (pure_extract rfl rfl) ?_
    | refine step_pure rfl (pure_max rfl rfl) ?_
    | refine step_pure rfl (pure_min rfl rfl) ?_
    | refine step_pure rfl (pure_ix rfl rfl rfl rfl rfl (by decide) (by decide) rfl) ?_
    | refine step_pure rfl (pure_assign rfl) ?_
    | refine step_nil ?_
    | refine c_seq ?_
    | refine c_region ?_
    | refine c_block ?_
  exact c_ret ⟨_, res_tmp Try.results21 rfl, _, List.Sublist.refl _, _, _, _, rfl, rfl⟩

/-- What the stream comes to. -/
def outAt (key A bs : List Int) (c : Int) (i : Nat) : Int := bits .xor .u8 (bs.getD i 0) (strAt key A (IntKind.u64.wrap c) i)
def outF (key A bs : List Int) (c : Int) : List Int := (List.range bs.length).map (outAt key A bs c)
/-- The row while it is filled. -/
def outL (key A bs : List Int) (c : Int) (k : Nat) : List Int := (List.range k).map (outAt key A bs c) ++ zeros (bs.length - k)
theorem outL_len (key A bs : List Int) (c : Int) (k : Nat) (h : k ≤ bs.length) : (outL key A bs c k).length = bs.length := by
  simp [outL, zeros]; omega
theorem outL_succ (key A bs : List Int) (c : Int) (k : Nat) (h : k < bs.length) : splice (outL key A bs c k) k [outAt key A bs c k] = outL key A bs c (k + 1) := by
  unfold outL
  have hl : ((List.range k).map (outAt key A bs c)).length = k := by simp
  obtain ⟨r, hr⟩ : ∃ r, bs.length - k = r + 1 := ⟨bs.length - k - 1, by omega⟩
  have hr2 : bs.length - (k + 1) = r := by omega
  rw [hr, hr2]
  generalize hL : (List.range k).map (outAt key A bs c) = L at hl
  have hz : zeros (r + 1) = 0 :: zeros r := rfl
  unfold splice
  rw [hz, List.take_left' hl, List.range_succ, List.map_append, hL, List.drop_append, hl]
  simp
  omega

def p13 : List Nat := [3, 9, 19, 25, 33, 41, 49, 57, 69, 76, 84]
theorem rowOf_u8 (k : Nat) : rowOf [.int .u8 0] k = row (zeros k) := by
  unfold rowOf madeCells row ints zeros
  simp [Nat.mod_one]
  rw [List.map_const', List.length_range]

/-- What stands in memory when k bytes have been written. -/
structure Fo (key A bs : List Int) (c : Int) (p : Addr) (cap bOut bArr bSl k : Nat) (W : World) : Prop where
  out : W.heap[bOut]? = some (.cells [Value.slice (some ⟨bArr, 0, none⟩) k bs.length].toArray 29 (0, 0))
  arr : W.heap[bArr]? = some (.cells (row (outL key A bs c k)).toArray 5 (0, 0))
  sl : W.heap[bSl]? = some (.cells [Value.slice (some p) bs.length cap].toArray 29 (0, 0))
  src : ∀ j x, (row bs)[j]? = some x → W.cell? (p.add j) = some x
theorem Fo.kc {key A bs : List Int} {c : Int} {p : Addr} {cap bOut bArr bSl k : Nat} {W W' : World} (h : Fo key A bs c p cap bOut bArr bSl k W) (kc : Kc [] W W') : Fo key A bs c p cap bOut bArr bSl k W' :=
  ⟨kc.cells _ _ _ _ (by simp) h.out, kc.cells _ _ _ _ (by simp) h.arr, kc.cells _ _ _ _ (by simp) h.sl, fun j x hx => kc.cell (by simp) (h.src j x hx)⟩

set_option maxHeartbeats 2000000 in
theorem stream13 (key A bs : List Int) (c : Int) (v3 : Value) (w : World) (hkl : key.length = 16) (hkb : Bytes key) (hAl : A.length = 8) (hAb : Bytes A)
    (hv : SlV w v3 (row bs)) (hbig : bs.length ≤ 140737488355328) :
    Makes tb 13 [.agg (row key).toArray, .agg (row A).toArray, .int .i64 c, v3] w fun v m' => ∃ base len cap e,
      v = .tuple #[.slice base len cap, .int .i64 (if c < 0 then 1 else 0)] ∧ m' = [e] ∧ SlIs u8T 5 e base len cap (row (if c < 0 then [] else outF key A bs c)) := by
  obtain ⟨base, cap, rfl, hbase⟩ := hv.is
  rw [row_len]
  refine ⟨calls_sem (B := tb) (fn := Try.f13) (vs := [.agg (row key).toArray, .agg (row A).toArray, .int .i64 c, .slice base bs.length cap]) Try.func13 rfl Try.ntmps13 rfl ?_⟩
  repeat first
    | refine s_seq ?_
    | refine step_box_agg rfl rfl (fun bK0 => ?_)
    | refine step_box rfl rfl rfl (fun bSl => ?_)
    | refine step_pure rfl (pure_move rfl) ?_
    | refine step_pure rfl (pure_add64 rfl rfl (by omega) (by omega)) ?_
    | refine step_pure rfl (pure_sub64 rfl rfl (by omega) (by omega)) ?_
    | refine step_pure rfl (pure_mul64 rfl rfl (by omega) (by omega)) ?_
    | refine step_pure rfl (pure_rem_pos rfl rfl (by omega) (by decide)) ?_
    | refine step_pure rfl (pure_lss rfl rfl) ?_
    | refine step_pure rfl (pure_leq rfl rfl) ?_
    | refine step_pure rfl (pure_gtr rfl rfl) ?_
    | refine step_pure rfl (pure_geq rfl rfl) ?_
    | refine step_pure rfl (pure_eql rfl rfl) ?_
    | refine step_pure rfl (pure_neq rfl rfl) ?_
    | refine step_pure rfl (pure_xor rfl rfl) ?_
    | refine step_pure rfl (pure_and rfl rfl) ?_
    | refine step_pure rfl (pure_or rfl rfl) ?_
    | refine step_pure rfl (pure_shl rfl rfl (by decide)) ?_
    | refine step_pure rfl (pure_shr rfl rfl (by decide)) ?_
    | refine step_pure rfl (pure_conv rfl rfl rfl rfl) ?_
    | refine step_pure rfl (pure_nilCheck rfl) ?_
    | refine step_pure rfl (pure_not rfl) ?_
    | refine step_pure rfl (pure_extract rfl rfl) ?_
    | refine step_pure rfl (pure_max rfl rfl) ?_
    | refine step_pure rfl (pure_min rfl rfl) ?_
    | refine step_pure rfl (pure_ix rfl rfl rfl rfl rfl (by decide) (by decide) rfl) ?_
    | refine step_pure rfl (pure_assign rfl) ?_
    | refine step_nil ?_
    | refine c_seq ?_
    | refine c_region ?_
    | refine c_block ?_
  refine c_cond rfl (fun h => ?_) (fun h => ?_)
  · have hc : c < 0 := of_decide_eq_true h
    repeat first
      | refine step_pure rfl (pure_move rfl) ?_
      | refine step_pure rfl (pure_add64 rfl rfl (by omega) (by omega)) ?_
      | refine step_pure rfl (pure_sub64 rfl rfl (by omega) (by omega)) ?_
      | refine step_pure rfl (pure_mul64 rfl rfl (by omega) (by omega)) ?_
      | refine step_pure rfl (pure_rem_pos rfl rfl (by omega) (by decide)) ?_
      | refine step_pure rfl (pure_lss rfl rfl) ?_
      | refine step_pure rfl (pure_leq rfl rfl) ?_
      | refine step_pure rfl (pure_gtr rfl rfl) ?_
      | refine step_pure rfl (pure_geq rfl rfl) ?_
      | refine step_pure rfl (pure_eql rfl rfl) ?_
      | refine step_pure rfl (pure_neq rfl rfl) ?_
      | refine step_pure rfl (pure_xor rfl rfl) ?_
      | refine step_pure rfl (pure_and rfl rfl) ?_
      | refine step_pure rfl (pure_or rfl rfl) ?_
      | refine step_pure rfl (pure_shl rfl rfl (by decide)) ?_
      | refine step_pure rfl (pure_shr rfl rfl (by decide)) ?_
      | refine step_pure rfl (pure_conv rfl rfl rfl rfl) ?_
      | refine step_pure rfl (pure_nilCheck rfl) ?_
      | refine step_pure rfl (pure_not rfl) ?_
      | refine step_pure rfl (pure_extract rfl rfl) ?_
      | refine step_pure rfl (pure_max rfl rfl) ?_
      | refine step_pure rfl (pure_min rfl rfl) ?_
      | refine step_pure rfl (pure_ix rfl rfl rfl rfl rfl (by decide) (by decide) rfl) ?_
      | refine step_pure rfl (pure_assign rfl) ?_
      | refine step_nil ?_
      | refine c_seq ?_
      | refine c_region ?_
      | refine c_block ?_
    refine c_ret ?_
    intro a w1 ok
    rw [if_pos hc, if_pos hc]
    exact ends_plain (.inr rfl) ok rfl (res_tmp2 Try.results13 rfl rfl) ⟨_, [hole], rfl, ⟨none, 0, 0, hole, rfl, rfl, sl_nil _ _ (by decide)⟩, has_hole.2 trivial, own_hole.2 trivial, ok.keep⟩
  · have hc : ¬ c < 0 := of_decide_eq_false h
    clear h
    rw [if_neg hc, if_neg hc]
    refine c_skip ?_
    repeat first
      | refine s_seq ?_
      | refine step_pure rfl (pure_load (i := 0) rfl rfl rfl rfl rfl rfl) ?_
      | refine step_pure rfl (pure_len_slice rfl rfl rfl) ?_
      | refine step_make (l := 0) (c := bs.length) rfl rfl rfl rfl rfl elemU8 (Nat.zero_le _) (by omega) (by omega) (fun bArr => ?_)
      | refine step_alloc rfl zero29 (fun bOut => ?_)
      | refine step_store 0 rfl rfl rfl rfl rfl rfl rfl rfl (by show 0 < 1; decide) rfl ?_
      | refine step_pure rfl (pure_move rfl) ?_
      | refine step_pure rfl (pure_add64 rfl rfl (by omega) (by omega)) ?_
      | refine step_pure rfl (pure_sub64 rfl rfl (by omega) (by omega)) ?_
      | refine step_pure rfl (pure_mul64 rfl rfl (by omega) (by omega)) ?_
      | refine step_pure rfl (pure_rem_pos rfl rfl (by omega) (by decide)) ?_
      | refine step_pure rfl (pure_lss rfl rfl) ?_
      | refine step_pure rfl (pure_leq rfl rfl) ?_
      | refine step_pure rfl (pure_gtr rfl rfl) ?_
      | refine step_pure rfl (pure_geq rfl rfl) ?_
      | refine step_pure rfl (pure_eql rfl rfl) ?_
      | refine step_pure rfl (pure_neq rfl rfl) ?_
      | refine step_pure rfl (pure_xor rfl rfl) ?_
      | refine step_pure rfl (pure_and rfl rfl) ?_
      | refine step_pure rfl (pure_or rfl rfl) ?_
      | refine step_pure rfl (pure_shl rfl rfl (by decide)) ?_
      | refine step_pure rfl (pure_shr rfl rfl (by decide)) ?_
      | refine step_pure rfl (pure_conv rfl rfl rfl rfl) ?_
      | refine step_pure rfl (pure_nilCheck rfl) ?_
      | refine step_pure rfl (pure_not rfl) ?_
      | refine step_pure rfl (pure_extract rfl rfl) ?_
      | refine step_pure rfl (pure_max rfl rfl) ?_
      | refine step_pure rfl (pure_min rfl rfl) ?_
      | refine step_pure rfl (pure_ix rfl rfl rfl rfl rfl (by decide) (by decide) rfl) ?_
      | refine step_pure rfl (pure_assign rfl) ?_
      | refine step_nil ?_
      | refine c_seq ?_
      | refine c_region ?_
      | refine c_block ?_
    generalize hz : rowOf [Value.int .u8 0] (bs.length * u8T.size) = zs
    have hzs : zs = row (zeros bs.length) := by rw [← hz, ← rowOf_u8, show bs.length * u8T.size = bs.length from Nat.mul_one _]
    subst hzs
    clear hz
    repeat first
      | refine s_seq ?_
      | refine step_pure rfl (pure_load (i := 2) rfl rfl rfl rfl rfl rfl) ?_
      | refine step_pure rfl (pure_len_slice rfl rfl rfl) ?_
      | refine step_pure rfl (pure_move rfl) ?_
      | refine step_pure rfl (pure_add64 rfl rfl (by omega) (by omega)) ?_
      | refine step_pure rfl (pure_sub64 rfl rfl (by omega) (by omega)) ?_
      | refine step_pure rfl (pure_mul64 rfl rfl (by omega) (by omega)) ?_
      | refine step_pure rfl (pure_rem_pos rfl rfl (by omega) (by decide)) ?_
      | refine step_pure rfl (pure_lss rfl rfl) ?_
      | refine step_pure rfl (pure_leq rfl rfl) ?_
      | refine step_pure rfl (pure_gtr rfl rfl) ?_
      | refine step_pure rfl (pure_geq rfl rfl) ?_
      | refine step_pure rfl (pure_eql rfl rfl) ?_
      | refine step_pure rfl (pure_neq rfl rfl) ?_
      | refine step_pure rfl (pure_xor rfl rfl) ?_
      | refine step_pure rfl (pure_and rfl rfl) ?_
      | refine step_pure rfl (pure_or rfl rfl) ?_
      | refine step_pure rfl (pure_shl rfl rfl (by decide)) ?_
      | refine step_pure rfl (pure_shr rfl rfl (by decide)) ?_
      | refine step_pure rfl (pure_conv rfl rfl rfl rfl) ?_
      | refine step_pure rfl (pure_nilCheck rfl) ?_
      | refine step_pure rfl (pure_not rfl) ?_
      | refine step_pure rfl (pure_extract rfl rfl) ?_
      | refine step_pure rfl (pure_max rfl rfl) ?_
      | refine step_pure rfl (pure_min rfl rfl) ?_
      | refine step_pure rfl (pure_ix rfl rfl rfl rfl rfl (by decide) (by decide) rfl) ?_
      | refine step_pure rfl (pure_assign rfl) ?_
      | refine step_nil ?_
      | refine c_seq ?_
      | refine c_region ?_
      | refine c_block ?_
    refine c_cond rfl (fun h => ?_) (fun h => ?_)
    · have hlen : bs.length = 0 := by have := eq_of_beq h; omega
      have hbs : bs = [] := List.eq_nil_of_length_eq_zero hlen
      subst hbs
      clear h
      repeat first
        | refine step_pure rfl (pure_load (i := 0) rfl rfl rfl rfl rfl rfl) ?_
        | refine step_pure rfl (pure_move rfl) ?_
        | refine step_pure rfl (pure_add64 rfl rfl (by omega) (by omega)) ?_
        | refine step_pure rfl (pure_sub64 rfl rfl (by omega) (by omega)) ?_
        | refine step_pure rfl (pure_mul64 rfl rfl (by omega) (by omega)) ?_
        | refine step_pure rfl (pure_rem_pos rfl rfl (by omega) (by decide)) ?_
        | refine step_pure rfl (pure_lss rfl rfl) ?_
        | refine step_pure rfl (pure_leq rfl rfl) ?_
        | refine step_pure rfl (pure_gtr rfl rfl) ?_
        | refine step_pure rfl (pure_geq rfl rfl) ?_
        | refine step_pure rfl (pure_eql rfl rfl) ?_
        | refine step_pure rfl (pure_neq rfl rfl) ?_
        | refine step_pure rfl (pure_xor rfl rfl) ?_
        | refine step_pure rfl (pure_and rfl rfl) ?_
        | refine step_pure rfl (pure_or rfl rfl) ?_
        | refine step_pure rfl (pure_shl rfl rfl (by decide)) ?_
        | refine step_pure rfl (pure_shr rfl rfl (by decide)) ?_
        | refine step_pure rfl (pure_conv rfl rfl rfl rfl) ?_
        | refine step_pure rfl (pure_nilCheck rfl) ?_
        | refine step_pure rfl (pure_not rfl) ?_
        | refine step_pure rfl (pure_extract rfl rfl) ?_
        | refine step_pure rfl (pure_max rfl rfl) ?_
        | refine step_pure rfl (pure_min rfl rfl) ?_
        | refine step_pure rfl (pure_ix rfl rfl rfl rfl rfl (by decide) (by decide) rfl) ?_
        | refine step_pure rfl (pure_assign rfl) ?_
        | refine step_nil ?_
        | refine c_seq ?_
        | refine c_region ?_
        | refine c_block ?_
      refine c_ret ?_
      intro a w1 ok
      refine ends_plain (.inr rfl) ok rfl (res_tmp2 Try.results13 rfl rfl) ⟨_, [hole], rfl, ⟨_, 0, 0, hole, rfl, rfl, ⟨rfl, Nat.le_refl _, fun h => absurd rfl h, rfl⟩⟩, has_hole.2 trivial, own_hole.2 trivial, ok.keep⟩
    · have hlen : bs.length ≠ 0 := by
        intro h0
        rw [h0] at h
        exact absurd h (by decide)
      clear h
      obtain ⟨p, rfl, hcells⟩ := hbase (by intro h; exact hlen (by rw [← row_len bs, h]; rfl))
      refine c_skip ?_
      refine s_seqs ?_
      repeat first
        | refine s_seq ?_
        | refine step_pure rfl (pure_load_agg (i := 4) rfl rfl rfl rfl rfl (by simp only [row_len, hkl]; decide) (ints_whole _ _ 16 hkl)) ?_
        | refine step_pure rfl (pure_load_agg (i := 3) rfl rfl rfl rfl rfl (by simp only [row_len, hAl]; decide) (ints_whole _ _ 8 hAl)) ?_
        | refine step_pure rfl (pure_move rfl) ?_
        | refine step_pure rfl (pure_add64 rfl rfl (by omega) (by omega)) ?_
        | refine step_pure rfl (pure_sub64 rfl rfl (by omega) (by omega)) ?_
        | refine step_pure rfl (pure_mul64 rfl rfl (by omega) (by omega)) ?_
        | refine step_pure rfl (pure_rem_pos rfl rfl (by omega) (by decide)) ?_
        | refine step_pure rfl (pure_lss rfl rfl) ?_
        | refine step_pure rfl (pure_leq rfl rfl) ?_
        | refine step_pure rfl (pure_gtr rfl rfl) ?_
        | refine step_pure rfl (pure_geq rfl rfl) ?_
        | refine step_pure rfl (pure_eql rfl rfl) ?_
        | refine step_pure rfl (pure_neq rfl rfl) ?_
        | refine step_pure rfl (pure_xor rfl rfl) ?_
        | refine step_pure rfl (pure_and rfl rfl) ?_
        | refine step_pure rfl (pure_or rfl rfl) ?_
        | refine step_pure rfl (pure_shl rfl rfl (by decide)) ?_
        | refine step_pure rfl (pure_shr rfl rfl (by decide)) ?_
        | refine step_pure rfl (pure_conv rfl rfl rfl rfl) ?_
        | refine step_pure rfl (pure_nilCheck rfl) ?_
        | refine step_pure rfl (pure_not rfl) ?_
        | refine step_pure rfl (pure_extract rfl rfl) ?_
        | refine step_pure rfl (pure_max rfl rfl) ?_
        | refine step_pure rfl (pure_min rfl rfl) ?_
        | refine step_pure rfl (pure_ix rfl rfl rfl rfl rfl (by decide) (by decide) rfl) ?_
        | refine step_pure rfl (pure_assign rfl) ?_
        | refine step_nil ?_
        | refine c_seq ?_
        | refine c_region ?_
        | refine c_block ?_
      refine step_makes rfl fun21 rfl (fun w _ _ => stream21 key A c w) ?_
      rintro v m' ⟨pK, pF, pA, rfl, rfl⟩
      refine step_nil ?_
      refine s_block ?_
      refine s_less (rs' := [(7, .pointer (some ⟨bSl, 0, none⟩)), (10, .pointer (some ⟨bOut, 0, none⟩)), (24, .func (.func 24) #[] #[.pointer (some ⟨pK, 0, none⟩), .pointer (some ⟨pF, 0, none⟩), .pointer (some ⟨pA, 0, none⟩)])])
        (m' := [⟨pF, [.int .i64 c], 3⟩, ⟨pA, row A, 28⟩, ⟨pK, row key, 22⟩, ⟨bOut, [.slice (some ⟨bArr, 0, none⟩) 0 bs.length], 29⟩, ⟨bArr, row (zeros bs.length), 5⟩, ⟨bSl, [.slice (some p) bs.length cap], 29⟩])
        (less_sub ⟨rfl, rfl, rfl, trivial⟩ (by repeat (first | exact List.nil_sublist _ | apply List.Sublist.cons_cons | apply List.Sublist.cons))) ?_
      refine ⟨fun a w1 ok => ?_⟩
      have hrow : ∀ l : List Int, 0 < l.length → row l ≠ [] := fun l hl h => by
        have := row_len l
        rw [h] at this
        simp at this
        omega
      have hpos : 0 < bs.length := by omega
      have nA := hrow A (by omega)
      have nK := hrow key (by omega)
      have nZ := hrow (zeros bs.length) (by rw [zeros_len]; exact hpos)
      have hpF := ok.has.1 (by simp)
      have hpA := ok.has.2.2.1 nA
      have hpK := ok.has.2.2.2.2.1 nK
      have hbO := ok.has.2.2.2.2.2.2.1 (by simp)
      have hbR := ok.has.2.2.2.2.2.2.2.2.1 nZ
      have hbS := ok.has.2.2.2.2.2.2.2.2.2.2.1 (by simp)
      have aA := ok.has.2.2.2.1 nA
      have aO := ok.has.2.2.2.2.2.2.2.1 (by simp)
      have aR := ok.has.2.2.2.2.2.2.2.2.2.1 nZ
      have hAO : pA ≠ bOut := aA.2.1 (by simp)
      have hAR : pA ≠ bArr := aA.2.2.1 nZ
      have hOR : bOut ≠ bArr := aO.1 nZ
      have hOS : bOut ≠ bSl := aO.2.1 (by simp)
      have hRS : bArr ≠ bSl := aR.1 (by simp)
      have oO : w.heap.size ≤ bOut := (ok.own.2.2.2.1 (by simp)).elim id (fun h => by cases h)
      have oR : w.heap.size ≤ bArr := (ok.own.2.2.2.2.1 nZ).elim id (fun h => by cases h)
      have hsrcB : ∀ j x, (row bs)[j]? = some x → (p.add j).block ∉ [bOut, bArr] := fun j x hx hm => by
        have h1 := World.block_lt_of_cell? _ _ (hcells j x hx)
        simp at hm
        omega
      have hSws : bSl ∉ [bOut, bArr] := by simp [hOS.symm, hRS.symm]
      have hF0 : Fo key A bs c p cap bOut bArr bSl 0 w1 := ⟨hbO, by simpa [outL] using hbR, hbS, fun j x hx => ok.keep.kc.cell (by simp) (hcells j x hx)⟩
      refine range_fn (P := tb.P) (ws := [bOut, bArr]) (ev_ok ok.regs rfl) fun24 (stream_iter key A c pK pF pA w1 [bOut, bArr] hkl hkb hAl hAb hpK (cell_of hpF rfl) hpA (by simp [hAO, hAR]) ?_)
        (fun k => rfl) ?_ bs.length (fun k W => k < bs.length ∧ Fo key A bs c p cap bOut bArr bSl k W) (fun cd k W => cd = .exit 0 ∧ k = bs.length ∧ Fo key A bs c p cap bOut bArr bSl k W)
        (fun k W h => Nat.le_of_lt h.1) (fun k A C h kc => ⟨h.1, h.2.kc kc⟩) (fun cd k A C h kc => ⟨h.1, h.2.1, h.2.2.kc kc⟩) ⟨hpos, hF0⟩ ?round (fun D k W _ _ _ hfin => hfin.elim) ?stop
      · intro x hx
        simp at hx
        rcases hx with rfl | rfl
        · exact lt_of_heap hbO
        · exact lt_of_heap hbR
      · intro x hx
        simp at hx
        rcases hx with rfl | rfl
        · exact lt_of_heap hbO
        · exact lt_of_heap hbR
      case round =>
        rintro l k W ⟨hlt, hf⟩ _
        have ht : ((#[25] : Array Tmp).zip (strE key A (IntKind.u64.wrap c) k)).foldl (fun t (p, v) => t.setIfInBounds p v) a.tmps = (a.put (some 25) (.int .u8 (strAt key A (IntKind.u64.wrap c) k))).tmps := by
          simp [strE, Act.put]
        have okA : ∀ T, T = (a.put (some 25) (.int .u8 (strAt key A (IntKind.u64.wrap c) k))).tmps →
            Ok ⟨W, [], []⟩ 42 [(25, .int .u8 (strAt key A (IntKind.u64.wrap c) k)), (7, .pointer (some ⟨bSl, 0, none⟩)), (10, .pointer (some ⟨bOut, 0, none⟩))] [] { tmps := T, defers := [] } W := by
          rintro T rfl
          exact ⟨(put_size ..).trans ok.size, rfl, fun t v hv => put_regs (d := some 25) ok.size rfl ok.regs t v
            (look_all (rs' := [(25, .int .u8 (strAt key A (IntKind.u64.wrap c) k)), (7, .pointer (some ⟨bSl, 0, none⟩)), (10, .pointer (some ⟨bOut, 0, none⟩))]) ⟨rfl, rfl, rfl, trivial⟩ t v hv), trivial, trivial, Keep.refl _ _⟩
        refine WPs.run (B := tb.inRound l) ?_ _ W (okA _ ht)
        refine s_wp ?_
        repeat first
          | refine step_pure rfl (pure_move rfl) ?_
          | refine step_pure rfl (pure_add64 rfl rfl (by omega) (by omega)) ?_
          | refine step_pure rfl (pure_sub64 rfl rfl (by omega) (by omega)) ?_
          | refine step_pure rfl (pure_mul64 rfl rfl (by omega) (by omega)) ?_
          | refine step_pure rfl (pure_rem_pos rfl rfl (by omega) (by decide)) ?_
          | refine step_pure rfl (pure_lss rfl rfl) ?_
          | refine step_pure rfl (pure_leq rfl rfl) ?_
          | refine step_pure rfl (pure_gtr rfl rfl) ?_
          | refine step_pure rfl (pure_geq rfl rfl) ?_
          | refine step_pure rfl (pure_eql rfl rfl) ?_
          | refine step_pure rfl (pure_neq rfl rfl) ?_
          | refine step_pure rfl (pure_xor rfl rfl) ?_
          | refine step_pure rfl (pure_and rfl rfl) ?_
          | refine step_pure rfl (pure_or rfl rfl) ?_
          | refine step_pure rfl (pure_shl rfl rfl (by decide)) ?_
          | refine step_pure rfl (pure_shr rfl rfl (by decide)) ?_
          | refine step_pure rfl (pure_conv rfl rfl rfl rfl) ?_
          | refine step_pure rfl (pure_nilCheck rfl) ?_
          | refine step_pure rfl (pure_not rfl) ?_
          | refine step_pure rfl (pure_extract rfl rfl) ?_
          | refine step_pure rfl (pure_max rfl rfl) ?_
          | refine step_pure rfl (pure_min rfl rfl) ?_
          | refine step_pure rfl (pure_ix rfl rfl rfl rfl rfl (by decide) (by decide) rfl) ?_
          | refine step_pure rfl (pure_assign rfl) ?_
          | refine step_nil ?_
          | refine c_seq ?_
          | refine c_region ?_
          | refine c_block ?_
        intro a1 W1 ok1
        refine ⟨ok1.keep, fun W2 hk12 hI2 => ?_⟩
        have hf2 := hI2.2
        have hOl := outL_len key A bs c k (Nat.le_of_lt hlt)
        have nO := hrow (outL key A bs c k) (by omega)
        have okB : Ok ⟨W2, [bOut, bArr], []⟩ 42 [(11, .int .u8 (strAt key A (IntKind.u64.wrap c) k)), (7, .pointer (some ⟨bSl, 0, none⟩)), (10, .pointer (some ⟨bOut, 0, none⟩))]
            [⟨bOut, [.slice (some ⟨bArr, 0, none⟩) k bs.length], 29⟩, ⟨bArr, row (outL key A bs c k), 5⟩] a1 W2 :=
          ⟨ok1.size, ok1.defers, fun t v hv => ok1.regs t v (look_all (rs := _) (rs' := [(11, .int .u8 (strAt key A (IntKind.u64.wrap c) k)), (7, .pointer (some ⟨bSl, 0, none⟩)), (10, .pointer (some ⟨bOut, 0, none⟩))]) ⟨rfl, rfl, rfl, trivial⟩ t v hv),
            ⟨fun _ => hf2.out, fun _ => ⟨fun _ => hOR, trivial⟩, fun _ => hf2.arr, fun _ => trivial, trivial⟩, ⟨fun _ => .inr (by simp), fun _ => .inr (by simp), trivial⟩, Keep.refl _ _⟩
        refine WPs.run (B := tb.inRound l) ?_ a1 W2 okB
        clear okA okB ok1 ht
        have hSl2 := cell_of hf2.sl (off := 0) rfl
        have hget := row_get bs k hlt
        have hBk := hf2.src k _ hget
        have hBb := hsrcB k _ hget
        refine s_block (s_seq ?_)
        refine d_region p13 follows (by kernel_rfl) ?_
        refine d_pure1 rfl rfl rfl (pure_load (i := 0) rfl rfl rfl rfl rfl rfl) (SubMem.refl _) ?_
        refine d_pure0 rfl rfl rfl (pure_view rfl rfl rfl hSl2 hSws) ?_
        refine d_pure1 rfl rfl rfl (pure_load (i := 0) rfl rfl rfl rfl rfl rfl) (SubMem.refl _) ?_
        refine d_pure0 rfl rfl rfl (pure_len_slice rfl rfl rfl) ?_
        refine d_as0 rfl rfl rfl (pure_indexAddr_at rfl rfl rfl rfl rfl (by omega) (by omega)) (show _ = Value.pointer (some (p.add k)) from by rw [Int.toNat_natCast]; exact congrArg (fun j => Value.pointer (some (p.add j))) (Nat.mul_one k)) ?_
        refine d_pure0 rfl rfl rfl (pure_view_at rfl rfl rfl hBk hBb) ?_
        refine d_pure0 rfl rfl rfl (pure_move rfl) ?_
        refine d_as0 rfl rfl rfl (pure_xor rfl rfl) (show _ = Value.int .u8 (outAt key A bs c k) from rfl) ?_
        have hfill : fillL (fun i => some (i * u8T.size, u8T.size)) (rowOf [.int .u8 0] (1 * u8T.size)) [(0, Value.int .u8 (outAt key A bs c k))] = some [Value.int .u8 (outAt key A bs c k)] := by
          rw [show 1 * u8T.size = 1 from rfl, rowOf_u8]; rfl
        refine d_buildSlice rfl rfl rfl rfl rfl rfl elemU8 (by decide) (by decide) hfill (SubMem.refl _) rfl (fun bt => ?_)
        have hsp : splice (row (outL key A bs c k)) (k * u8T.size) [Value.int .u8 (outAt key A bs c k)] = row (outL key A bs c (k + 1)) := by
          rw [show k * u8T.size = k from Nat.mul_one k, ← outL_succ key A bs c k hlt]; exact ints_splice .u8 (outL key A bs c k) [outAt key A bs c k] k
        refine d_only rfl rfl rfl rfl (eff_append_room (i := 2) (k := 1) rfl rfl rfl rfl rfl rfl elemU8 rfl rfl nO rfl rfl (by omega) (by rw [row_len, hOl, show (k + 1) * u8T.size = k + 1 from Nat.mul_one _]; omega)
          (src_own (j := 0) (sl_built u8T 5 bt [Value.int .u8 (outAt key A bs c k)] 1 rfl) rfl) (by intro v hv; simp at hv; subst hv; rfl) hsp) ?_ rfl
        rintro v m' ⟨rfl, rfl⟩
        refine ⟨fun h => (by cases h), ?_⟩
        refine d_store 1 rfl rfl rfl rfl rfl rfl rfl rfl rfl rfl (by show 0 < 1; decide) rfl rfl rfl ?_
        refine d_nil ?_
        have nO2 := hrow (outL key A bs c (k + 1)) (by rw [outL_len key A bs c (k + 1) hlt]; exact hpos)
        repeat first
          | refine s_seq ?_
          | refine step_pure rfl (pure_load (i := 1) rfl rfl rfl rfl rfl rfl) ?_
          | refine step_pure rfl (pure_len_slice rfl rfl rfl) ?_
          | refine step_pure rfl (pure_view rfl rfl rfl hSl2 hSws) ?_
          | refine step_pure rfl (pure_move rfl) ?_
          | refine step_pure rfl (pure_add64 rfl rfl (by omega) (by omega)) ?_
          | refine step_pure rfl (pure_sub64 rfl rfl (by omega) (by omega)) ?_
          | refine step_pure rfl (pure_mul64 rfl rfl (by omega) (by omega)) ?_
          | refine step_pure rfl (pure_rem_pos rfl rfl (by omega) (by decide)) ?_
          | refine step_pure rfl (pure_lss rfl rfl) ?_
          | refine step_pure rfl (pure_leq rfl rfl) ?_
          | refine step_pure rfl (pure_gtr rfl rfl) ?_
          | refine step_pure rfl (pure_geq rfl rfl) ?_
          | refine step_pure rfl (pure_eql rfl rfl) ?_
          | refine step_pure rfl (pure_neq rfl rfl) ?_
          | refine step_pure rfl (pure_xor rfl rfl) ?_
          | refine step_pure rfl (pure_and rfl rfl) ?_
          | refine step_pure rfl (pure_or rfl rfl) ?_
          | refine step_pure rfl (pure_shl rfl rfl (by decide)) ?_
          | refine step_pure rfl (pure_shr rfl rfl (by decide)) ?_
          | refine step_pure rfl (pure_conv rfl rfl rfl rfl) ?_
          | refine step_pure rfl (pure_nilCheck rfl) ?_
          | refine step_pure rfl (pure_not rfl) ?_
          | refine step_pure rfl (pure_extract rfl rfl) ?_
          | refine step_pure rfl (pure_max rfl rfl) ?_
          | refine step_pure rfl (pure_min rfl rfl) ?_
          | refine step_pure rfl (pure_ix rfl rfl rfl rfl rfl (by decide) (by decide) rfl) ?_
          | refine step_pure rfl (pure_assign rfl) ?_
          | refine step_nil ?_
          | refine c_seq ?_
          | refine c_region ?_
          | refine c_block ?_
        have fin : ∀ a3 W3 rs3, Ok ⟨W2, [bOut, bArr], []⟩ 42 rs3 [⟨bt, [Value.int .u8 (outAt key A bs c k)], 5⟩, ⟨bOut, [.slice (some ⟨bArr, 0, none⟩) (k + 1) bs.length], 29⟩, ⟨bArr, row (outL key A bs c (k + 1)), 5⟩] a3 W3 →
            Keep W2 W3 [bOut, bArr] ∧ Fo key A bs c p cap bOut bArr bSl (k + 1) W3 := fun a3 W3 rs3 ok3 =>
          ⟨ok3.keep, ok3.has.2.2.1 (by simp), ok3.has.2.2.2.2.1 nO2, (ok3.keep.block _ (lt_of_heap hf2.sl) hSws).trans hf2.sl, fun j x hx => ok3.keep.kc.cell (hsrcB j x hx) (hf2.src j x hx)⟩
        refine s_wp (c_cond rfl (fun h => c_exit ?_) (fun h => c_skip ?_))
        · intro a3 W3 ok3
          have hk := eq_of_beq h
          obtain ⟨g1, g2⟩ := fin _ _ _ ok3
          exact exit_on (by decide) ⟨g1, rfl, by omega, g2⟩
        · intro a3 W3 ok3
          have hk : ((k + 1 : Nat) : Int) ≠ (bs.length : Nat) := fun e => by rw [e] at h; simp at h
          obtain ⟨g1, g2⟩ := fin _ _ _ ok3
          exact ⟨g1, by omega, g2⟩
      case stop =>
        rintro D cd k W hD hdef hkeep ⟨rfl, rfl, hf⟩
        refine wpIn_exit (exit_here ?_)
        have hkeep0 : Keep w W [] := ok.keep.trans hkeep (fun x hx hlt => by
          have hlt' : x < w.heap.size := hlt
          simp at hx
          omega)
        have okE : Ok ⟨W, [], [{ target := .collected D, args := #[] }]⟩ 42 [(10, .pointer (some ⟨bOut, 0, none⟩))] [] { a with defers := { target := .collected D, args := #[] } :: a.defers } W :=
          ⟨ok.size, by show _ :: a.defers = _; rw [ok.defers], fun t v hv => ok.regs t v (look_all (rs' := [(10, .pointer (some ⟨bOut, 0, none⟩))]) ⟨rfl, trivial⟩ t v hv), trivial, trivial, Keep.refl _ _⟩
        refine WPs.run (B := tb) ?_ _ W okE
        have hO2 := cell_of hf.out (off := 0) rfl
        repeat first
          | refine s_seq ?_
          | refine step_pure rfl (pure_view rfl rfl rfl hO2 (by simp)) ?_
          | refine step_pure rfl (pure_move rfl) ?_
          | refine step_pure rfl (pure_add64 rfl rfl (by omega) (by omega)) ?_
          | refine step_pure rfl (pure_sub64 rfl rfl (by omega) (by omega)) ?_
          | refine step_pure rfl (pure_mul64 rfl rfl (by omega) (by omega)) ?_
          | refine step_pure rfl (pure_rem_pos rfl rfl (by omega) (by decide)) ?_
          | refine step_pure rfl (pure_lss rfl rfl) ?_
          | refine step_pure rfl (pure_leq rfl rfl) ?_
          | refine step_pure rfl (pure_gtr rfl rfl) ?_
          | refine step_pure rfl (pure_geq rfl rfl) ?_
          | refine step_pure rfl (pure_eql rfl rfl) ?_
          | refine step_pure rfl (pure_neq rfl rfl) ?_
          | refine step_pure rfl (pure_xor rfl rfl) ?_
          | refine step_pure rfl (pure_and rfl rfl) ?_
          | refine step_pure rfl (pure_or rfl rfl) ?_
          | refine step_pure rfl (pure_shl rfl rfl (by decide)) ?_
          | refine step_pure rfl (pure_shr rfl rfl (by decide)) ?_
          | refine step_pure rfl (pure_conv rfl rfl rfl rfl) ?_
          | refine step_pure rfl (pure_nilCheck rfl) ?_
          | refine step_pure rfl (pure_not rfl) ?_
          | refine step_pure rfl (pure_extract rfl rfl) ?_
          | refine step_pure rfl (pure_max rfl rfl) ?_
          | refine step_pure rfl (pure_min rfl rfl) ?_
          | refine step_pure rfl (pure_ix rfl rfl rfl rfl rfl (by decide) (by decide) rfl) ?_
          | refine step_pure rfl (pure_assign rfl) ?_
          | refine step_nil ?_
          | refine c_seq ?_
          | refine c_region ?_
          | refine c_block ?_
        refine s_wp (c_ret ?_)
        intro a3 W3 ok3
        have hDr : bArr ≠ D := fun e => by
          have h1 := hf.arr
          rw [e, hdef] at h1
          cases h1
        have hd3 := (ok3.keep.block D (lt_of_heap hdef) (by simp)).trans hdef
        have hL : outL key A bs c bs.length = outF key A bs c := by simp [outL, outF, zeros]
        refine ends_mark (.inr rfl) ok3 rfl hd3 (res_tmp2 Try.results13 rfl rfl) ⟨_, [⟨bArr, row (outL key A bs c bs.length), 5⟩], rfl, ⟨_, _, _, _, rfl, rfl, ?_⟩, ?_, ?_, ?_⟩
        · rw [hL]
          exact ⟨by rw [← hL, row_len, outL_len key A bs c _ (Nat.le_refl _)]; exact (Nat.mul_one _).symm, Nat.le_refl _, fun _ => ⟨rfl, rfl⟩, by
            exact List.take_of_length_le (by rw [← hL, row_len, outL_len key A bs c _ (Nat.le_refl _)]; exact Nat.le_of_eq (Nat.mul_one _).symm)⟩
        · refine ⟨fun _ => ?_, fun _ => trivial, trivial⟩
          exact (World.putObj_heap_other hDr).trans ((ok3.keep.block _ (lt_of_heap hf.arr) (by simp)).trans hf.arr)
        · exact ⟨fun _ => .inl oR, trivial⟩
        · exact (hkeep0.trans ok3.keep (by simp)).put (by have h1 : w.heap.size ≤ w1.heap.size := ok.keep.size; show w.heap.size ≤ D; omega) _
end Go.Proofs.Ytgpjbfedbncniaa
