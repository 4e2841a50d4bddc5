/- The program's stream: what its iterator hands out. -/
import Derived.Test.YtgpjbfedbncniaaA7
import Derived.Test.YtgpjbfedbncniaaVr
namespace Go.Proofs.Ytgpjbfedbncniaa
open Go.RowKit Go.Vc
set_option linter.unusedVariables false

/-- The block that is enciphered: eight bytes ahead, eight of the counter, the first i of them written. -/
def xbL (A : List Int) (n : Int) : Nat → List Int
  | 0 => A ++ zeros 8
  | i + 1 => (xbL A n i).set (8 + i) (IntKind.u8.wrap (n / 2 ^ min (56 - 8 * (i : Int)).toNat IntKind.u64.bits))
theorem xbL_len (A : List Int) (n : Int) (h : A.length = 8) (i : Nat) : (xbL A n i).length = 16 := by
  induction i with
  | zero => simp [xbL, h, zeros]
  | succ i ih => exact (List.length_set ..).trans ih
theorem xbL_bytes (A : List Int) (n : Int) (h : Bytes A) (i : Nat) : Bytes (xbL A n i) := by
  induction i with
  | zero => exact h.append (Bytes.replicate 8)
  | succ i ih => exact ih.set _ (by rw [wrap_u8]; omega)
def ctr (c0 : Int) : Nat → Int
  | 0 => c0
  | q + 1 => IntKind.u64.wrap (ctr c0 q + 1)
def strB (key A : List Int) (c0 : Int) (q : Nat) : List Int := blkF boxT (expF boxT key) (xbL A (ctr c0 q) 8)
def strAt (key A : List Int) (c0 : Int) (k : Nat) : Int := (strB key A c0 (k / 16)).getD (k % 16) 0
theorem strAt_is (key A : List Int) (c0 : Int) (q i : Nat) (h : i < 16) : strAt key A c0 (16 * q + i) = (strB key A c0 q).getD i 0 := by
  unfold strAt
  rw [show (16 * q + i) / 16 = q by omega, show (16 * q + i) % 16 = i by omega]
def strE (key A : List Int) (c0 : Int) (k : Nat) : Array Value := #[.int .u8 (strAt key A c0 k)]

/-- What the iterator goes on knowing. -/
structure Fx (ws : List Nat) (bB bK pA : Nat) (S K A : List Int) (W : World) : Prop where
  box : W.heap[bB]? = some (.cells (row S).toArray 39 (0, 0))
  keys : W.heap[bK]? = some (.cells (row K).toArray 25 (0, 0))
  ahead : W.heap[pA]? = some (.cells (row A).toArray 28 (0, 0))
  nB : bB ∉ ws
  nK : bK ∉ ws
  nA : pA ∉ ws
theorem Fx.kc {ws : List Nat} {bB bK pA : Nat} {S K A : List Int} {W W' : World} (h : Fx ws bB bK pA S K A W) (k : Kc ws W W') : Fx ws bB bK pA S K A W' :=
  ⟨k.cells _ _ _ _ h.nB h.box, k.cells _ _ _ _ h.nK h.keys, k.cells _ _ _ _ h.nA h.ahead, h.nB, h.nK, h.nA⟩

def p24a : List Nat := [1, 9, 20]

set_option maxHeartbeats 2000000 in
theorem stream_iter (key A : List Int) (c : Int) (pK pF pA : Nat) (w : World) (ws : List Nat) (hkl : key.length = 16) (hkb : Bytes key) (hAl : A.length = 8) (hAb : Bytes A)
    (hK : w.heap[pK]? = some (.cells (row key).toArray 22 (0, 0))) (hF : w.cell? ⟨pF, 0, none⟩ = some (.int .i64 c)) (hA : w.heap[pA]? = some (.cells (row A).toArray 28 (0, 0)))
    (hnA : pA ∉ ws) (hws : ∀ x ∈ ws, x < w.heap.size) :
    IterC tb.P 24 #[.pointer (some ⟨pK, 0, none⟩), .pointer (some ⟨pF, 0, none⟩), .pointer (some ⟨pA, 0, none⟩)] (strE key A (IntKind.u64.wrap c)) ws (fun _ => True) (fun _ => False) w := by
  intro M l J Jx W hw hJ hJx hM hY h0
  have hK' : W.heap[pK]? = some (.cells (row key).toArray 22 (0, 0)) := (hw.block _ (lt_of_heap hK) (by simp)).trans hK
  have hA' : W.heap[pA]? = some (.cells (row A).toArray 28 (0, 0)) := (hw.block _ (lt_of_heap hA) (by simp)).trans hA
  have hF' : W.cell? ⟨pF, 0, none⟩ = some (.int .i64 c) := by
    have hlt := World.block_lt_of_cell? _ _ hF
    unfold World.cell? at hF ⊢
    rw [hw.block _ hlt (by simp)]
    exact hF
  have hWs : ∀ x ∈ ws, x < W.heap.size := fun x hx => Nat.lt_of_lt_of_le (hws x hx) hw.size
  refine calls_sem (B := tb) (fn := Try.f24) (vs := [.func (.yield l) #[] #[], .pointer (some ⟨pK, 0, none⟩), .pointer (some ⟨pF, 0, none⟩), .pointer (some ⟨pA, 0, none⟩)]) Try.func24 rfl Try.ntmps24 rfl ?_
  have hKl := expF_len boxT key hkl
  have hSl := boxT_len
  have hS : ∀ bb w m, Has w m → (∃ j, nth m j = some ⟨bb, row boxT, 39⟩) → Gives tb 16 [.agg (row key).toArray, .pointer (some ⟨bb, 0, none⟩)] w (.agg (row (expF boxT key)).toArray) :=
    fun bb w m hh ⟨j, hj⟩ => expanded_any key boxT bb w hkl hkb (has_row hh hj boxT_len)
  have hX : ∀ bB bK pA W q, Fx ws bB bK pA boxT (expF boxT key) A W → Gives tb 17 [.pointer (some ⟨bK, 0, none⟩), .pointer (some ⟨bB, 0, none⟩), .agg (row (xbL A (ctr (IntKind.u64.wrap c) q) 8)).toArray] W
      (.agg (row (strB key A (IntKind.u64.wrap c) q)).toArray) := fun bB bK pA W q h =>
    block_any boxT (expF boxT key) _ bK bB W (xbL_len A _ hAl 8) (xbL_bytes A _ hAb 8) boxT_bytes
      (fun i hi => cell_of h.keys (row_get _ _ (by rw [expF_len boxT key hkl]; exact hi))) (fun i hi => cell_of h.box (row_get _ _ (by rw [boxT_len]; exact hi)))
  have hXl : ∀ q, (strB key A (IntKind.u64.wrap c) q).length = 16 := fun q => blkF_len _ _ _ (xbL_len A _ hAl 8)
  have hB := boxes_any
  have hat := strAt_is key A (IntKind.u64.wrap c)
  generalize strB key A (IntKind.u64.wrap c) = X at hX hXl hat
  generalize expF boxT key = K at hKl hS hX
  generalize boxT = S at hSl hS hB hX
  have hc0 : (IntKind.u64.wrap c) = ctr (IntKind.u64.wrap c) 0 := rfl
  repeat first
    | refine s_seq ?_
    | refine step_alloc rfl zero39 (fun bB => ?_)
    | refine step_alloc rfl zero25 (fun bK => ?_)
    | refine step_gives rfl fun15 rfl (fun w _ _ => hB w) ?_
    | refine step_store_agg 0 rfl rfl rfl (row_one _) rfl (by rw [row_len]; exact hSl) rfl rfl (by simp only [row_len, zeros_len]; decide) (splice_all (by simp only [row_len, zeros_len, hSl])) ?_
    | refine step_pure rfl (pure_view_agg rfl rfl rfl hK' (by simp) (by simp only [row_len, hkl]; decide) (ints_whole _ _ 16 hkl)) ?_
    | refine step_pure rfl (pure_view rfl rfl rfl hF' (by simp)) ?_
    | refine step_gives rfl fun16 rfl (fun w hh _ => hS _ w _ hh ⟨0, rfl⟩) ?_
    | refine step_store_agg 0 rfl rfl rfl (row_one _) rfl (by rw [row_len]; exact hKl) rfl rfl (by simp only [row_len, zeros_len]; decide) (splice_all (by simp only [row_len, zeros_len, hKl])) ?_
    | refine step_pure rfl (pure_move rfl) ?_
    | refine step_pure rfl (pure_add64 rfl rfl (by omega) (by omega)) ?_
    | refine step_pure rfl (pure_sub64 rfl rfl (by omega) (by omega)) ?_
    | refine step_pure rfl (pure_mul64 rfl rfl (by omega) (by omega)) ?_
    | refine step_pure rfl (pure_rem_pos rfl rfl (by omega) (by decide)) ?_
    | refine step_pure rfl (pure_lss rfl rfl) ?_
    | refine step_pure rfl (pure_leq rfl rfl) ?_
    | refine step_pure rfl (pure_gtr rfl rfl) ?_
    | refine step_pure rfl (pure_geq rfl rfl) ?_
    | refine step_pure rfl (pure_eql rfl rfl) ?_
    | refine step_pure rfl (pure_neq rfl rfl) ?_
    | refine step_pure rfl (pure_xor rfl rfl) ?_
    | refine step_pure rfl (pure_and rfl rfl) ?_
    | refine step_pure rfl (pure_or rfl rfl) ?_
    | refine step_pure rfl (pure_shl rfl rfl (by decide)) ?_
    | refine step_pure rfl (pure_shr rfl rfl (by decide)) ?_
    | refine step_pure rfl (pure_conv rfl rfl rfl rfl) ?_
    | refine step_pure rfl (pure_nilCheck rfl) ?_
    | refine step_pure rfl (pure_not rfl) ?_
    | refine step_pure rfl (pure_extract rfl rfl) ?_
    | refine step_pure rfl (pure_max rfl rfl) ?_
    | refine step_pure rfl (pure_min rfl rfl) ?_
    | refine step_pure rfl (pure_ix rfl rfl rfl rfl rfl (by decide) (by decide) rfl) ?_
    | refine step_pure rfl (pure_assign rfl) ?_
    | refine step_nil ?_
    | refine c_seq ?_
    | refine c_region ?_
    | refine c_block ?_
  refine s_block ?_
  obtain ⟨c0, hcc⟩ : ∃ c0, c0 = IntKind.u64.wrap c := ⟨_, rfl⟩
  rw [← hcc] at hX hY hat hc0 ⊢
  clear hcc
  have hrow : ∀ l : List Int, 0 < l.length → row l ≠ [] := fun l hl h => by
    have := row_len l
    rw [h] at this
    simp at this
    omega
  refine s_less (rs' := [(0, .func (.yield l) #[] #[]), (3, .pointer (some ⟨pA, 0, none⟩)), (5, .pointer (some ⟨bB, 0, none⟩)), (6, .pointer (some ⟨bK, 0, none⟩)), (7, .int .u64 (ctr c0 0))])
    (m' := [⟨bK, row K, 25⟩, ⟨bB, row S, 39⟩]) (less_of ⟨rfl, rfl, rfl, rfl, rfl, trivial⟩ rfl) ?_
  refine s_loop (fun k a w => ∃ q W', k = M + 1 - 16 * q ∧ J (16 * q) W' ∧ Fx ws bB bK pA S K A W' ∧
    Ok ⟨W', [], []⟩ 45 [(0, .func (.yield l) #[] #[]), (3, .pointer (some ⟨pA, 0, none⟩)), (5, .pointer (some ⟨bB, 0, none⟩)), (6, .pointer (some ⟨bK, 0, none⟩)), (7, .int .u64 (ctr c0 q))] [] a w) (M + 1) ?_ ?_
  · intro a w1 ok
    have hK1 := hrow K (by omega)
    have hS1 := hrow S (by omega)
    have hnew : ∀ b, W.heap.size ≤ b ∨ b ∈ ([] : List Nat) → b ∉ ws := fun b hb hx => by
      rcases hb with hb | hb
      · have := hWs b hx; omega
      · cases hb
    exact ⟨0, w1, rfl, hJ _ _ _ h0 ok.keep, ⟨ok.has.2.2.1 hS1, ok.has.1 hK1, (ok.keep.block _ (lt_of_heap hA') (by simp)).trans hA', hnew _ (ok.own.2.1 hS1), hnew _ (ok.own.1 hK1), hnA⟩, ok.fresh⟩
  rintro k a w1 ⟨q, W', rfl, hJq, hfx, ok⟩
  have h16 := hM _ _ hJq
  refine WPs.run (B := tb) ?_ a w1 ok
  clear ok
  refine s_seqs (s_block ?_)
  repeat first
    | refine s_seq ?_
    | refine step_alloc rfl zero22 (fun bX => ?_)
    | refine step_pure rfl (pure_move rfl) ?_
    | refine step_pure rfl (pure_add64 rfl rfl (by omega) (by omega)) ?_
    | refine step_pure rfl (pure_sub64 rfl rfl (by omega) (by omega)) ?_
    | refine step_pure rfl (pure_mul64 rfl rfl (by omega) (by omega)) ?_
    | refine step_pure rfl (pure_rem_pos rfl rfl (by omega) (by decide)) ?_
    | refine step_pure rfl (pure_lss rfl rfl) ?_
    | refine step_pure rfl (pure_leq rfl rfl) ?_
    | refine step_pure rfl (pure_gtr rfl rfl) ?_
    | refine step_pure rfl (pure_geq rfl rfl) ?_
    | refine step_pure rfl (pure_eql rfl rfl) ?_
    | refine step_pure rfl (pure_neq rfl rfl) ?_
    | refine step_pure rfl (pure_xor rfl rfl) ?_
    | refine step_pure rfl (pure_and rfl rfl) ?_
    | refine step_pure rfl (pure_or rfl rfl) ?_
    | refine step_pure rfl (pure_shl rfl rfl (by decide)) ?_
    | refine step_pure rfl (pure_shr rfl rfl (by decide)) ?_
    | refine step_pure rfl (pure_conv rfl rfl rfl rfl) ?_
    | refine step_pure rfl (pure_nilCheck rfl) ?_
    | refine step_pure rfl (pure_not rfl) ?_
    | refine step_pure rfl (pure_extract rfl rfl) ?_
    | refine step_pure rfl (pure_max rfl rfl) ?_
    | refine step_pure rfl (pure_min rfl rfl) ?_
    | refine step_pure rfl (pure_ix rfl rfl rfl rfl rfl (by decide) (by decide) rfl) ?_
    | refine step_pure rfl (pure_assign rfl) ?_
    | refine step_nil ?_
    | refine c_seq ?_
    | refine c_region ?_
    | refine c_block ?_
  refine d_region p24a follows (by kernel_rfl) ?_
  refine d_pure0 rfl rfl rfl (pure_slice_all rfl rfl rfl rfl) ?_
  refine d_pure0 rfl rfl rfl (pure_slice_all rfl rfl rfl rfl) ?_
  refine d_only rfl rfl rfl rfl (eff_copy (i := 0) (q := 8) (news := row A) rfl rfl rfl rfl rfl rfl rfl rfl rfl (by rw [row_len, hAl]; rfl) ?_ (row_one _) (by simp only [row_len, zeros_len, hAl]; decide) (hrow _ (by decide))) ?_ rfl
  · intro w2 _ hk2
    have := (hk2.block _ (lt_of_heap hfx.ahead) (by simp)).trans hfx.ahead
    simp only [Builtin.firstCells]
    rw [Go.Vc.run_loadCells this (8 * 1) (by simp only [row_len, hAl]; decide), ints_whole _ _ 8 hAl]
  rintro v m' ⟨rfl, rfl⟩
  refine ⟨fun h => (by cases h), ?_⟩
  have hx0 : splice (row (zeros 16)) 0 (row A) = row (xbL A (ctr c0 q) 0) := by
    rw [ints_splice]; unfold splice; rw [hAl]; rfl
  refine d_nil ?_
  simp only [setAt, hx0]
  repeat first
    | refine s_seq ?_
    | refine step_pure rfl (pure_move rfl) ?_
    | refine step_pure rfl (pure_add64 rfl rfl (by omega) (by omega)) ?_
    | refine step_pure rfl (pure_sub64 rfl rfl (by omega) (by omega)) ?_
    | refine step_pure rfl (pure_mul64 rfl rfl (by omega) (by omega)) ?_
    | refine step_pure rfl (pure_rem_pos rfl rfl (by omega) (by decide)) ?_
    | refine step_pure rfl (pure_lss rfl rfl) ?_
    | refine step_pure rfl (pure_leq rfl rfl) ?_
    | refine step_pure rfl (pure_gtr rfl rfl) ?_
    | refine step_pure rfl (pure_geq rfl rfl) ?_
    | refine step_pure rfl (pure_eql rfl rfl) ?_
    | refine step_pure rfl (pure_neq rfl rfl) ?_
    | refine step_pure rfl (pure_xor rfl rfl) ?_
    | refine step_pure rfl (pure_and rfl rfl) ?_
    | refine step_pure rfl (pure_or rfl rfl) ?_
    | refine step_pure rfl (pure_shl rfl rfl (by decide)) ?_
    | refine step_pure rfl (pure_shr rfl rfl (by decide)) ?_
    | refine step_pure rfl (pure_conv rfl rfl rfl rfl) ?_
    | refine step_pure rfl (pure_nilCheck rfl) ?_
    | refine step_pure rfl (pure_not rfl) ?_
    | refine step_pure rfl (pure_extract rfl rfl) ?_
    | refine step_pure rfl (pure_max rfl rfl) ?_
    | refine step_pure rfl (pure_min rfl rfl) ?_
    | refine step_pure rfl (pure_ix rfl rfl rfl rfl rfl (by decide) (by decide) rfl) ?_
    | refine step_pure rfl (pure_assign rfl) ?_
    | refine step_nil ?_
    | refine c_seq ?_
    | refine c_region ?_
    | refine c_block ?_
  refine c_loop (α := Nat) (fun i => [(0, .func (.yield l) #[] #[]), (3, .pointer (some ⟨pA, 0, none⟩)), (5, .pointer (some ⟨bB, 0, none⟩)), (6, .pointer (some ⟨bK, 0, none⟩)), (7, .int .u64 (ctr c0 q)), (8, .pointer (some ⟨bX, 0, none⟩)), (22, .int .i64 i)])
    (fun i => [⟨bX, row (xbL A (ctr c0 q) i), 22⟩]) (fun i => i ≤ 8) (fun i => 8 - i) 0 (by decide) (less_of ⟨rfl, rfl, rfl, rfl, rfl, rfl, rfl, trivial⟩ rfl) ?_
  intro i hi
  have hxl := xbL_len A (ctr c0 q) hAl i
  repeat first
    | refine step_pure rfl (pure_move rfl) ?_
    | refine step_pure rfl (pure_add64 rfl rfl (by omega) (by omega)) ?_
    | refine step_pure rfl (pure_sub64 rfl rfl (by omega) (by omega)) ?_
    | refine step_pure rfl (pure_mul64 rfl rfl (by omega) (by omega)) ?_
    | refine step_pure rfl (pure_rem_pos rfl rfl (by omega) (by decide)) ?_
    | refine step_pure rfl (pure_lss rfl rfl) ?_
    | refine step_pure rfl (pure_leq rfl rfl) ?_
    | refine step_pure rfl (pure_gtr rfl rfl) ?_
    | refine step_pure rfl (pure_geq rfl rfl) ?_
    | refine step_pure rfl (pure_eql rfl rfl) ?_
    | refine step_pure rfl (pure_neq rfl rfl) ?_
    | refine step_pure rfl (pure_xor rfl rfl) ?_
    | refine step_pure rfl (pure_and rfl rfl) ?_
    | refine step_pure rfl (pure_or rfl rfl) ?_
    | refine step_pure rfl (pure_shl rfl rfl (by decide)) ?_
    | refine step_pure rfl (pure_shr rfl rfl (by decide)) ?_
    | refine step_pure rfl (pure_conv rfl rfl rfl rfl) ?_
    | refine step_pure rfl (pure_nilCheck rfl) ?_
    | refine step_pure rfl (pure_not rfl) ?_
    | refine step_pure rfl (pure_extract rfl rfl) ?_
    | refine step_pure rfl (pure_max rfl rfl) ?_
    | refine step_pure rfl (pure_min rfl rfl) ?_
    | refine step_pure rfl (pure_ix rfl rfl rfl rfl rfl (by decide) (by decide) rfl) ?_
    | refine step_pure rfl (pure_assign rfl) ?_
    | refine step_nil ?_
    | refine c_seq ?_
    | refine c_region ?_
    | refine c_block ?_
  refine c_cond rfl (fun h => ?_) (fun h => ?_)
  · have hlt : i < 8 := by have := of_decide_eq_true h; omega
    clear h
    refine c_skip ?_
    repeat first
      | refine step_pure rfl (pure_shr rfl rfl (by omega)) ?_
      | refine step_pure rfl (pure_ix (off' := 8 + i) rfl rfl rfl rfl rfl (by omega) (by omega) (by show 0 + (8 + (i : Int)).toNat * 1 = _; omega)) ?_
      | refine step_store 0 rfl rfl rfl rfl rfl rfl rfl rfl (by rw [row_len]; omega) (row_set _ _ _) ?_
      | refine step_pure rfl (pure_move rfl) ?_
      | refine step_pure rfl (pure_add64 rfl rfl (by omega) (by omega)) ?_
      | refine step_pure rfl (pure_sub64 rfl rfl (by omega) (by omega)) ?_
      | refine step_pure rfl (pure_mul64 rfl rfl (by omega) (by omega)) ?_
      | refine step_pure rfl (pure_rem_pos rfl rfl (by omega) (by decide)) ?_
      | refine step_pure rfl (pure_lss rfl rfl) ?_
      | refine step_pure rfl (pure_leq rfl rfl) ?_
      | refine step_pure rfl (pure_gtr rfl rfl) ?_
      | refine step_pure rfl (pure_geq rfl rfl) ?_
      | refine step_pure rfl (pure_eql rfl rfl) ?_
      | refine step_pure rfl (pure_neq rfl rfl) ?_
      | refine step_pure rfl (pure_xor rfl rfl) ?_
      | refine step_pure rfl (pure_and rfl rfl) ?_
      | refine step_pure rfl (pure_or rfl rfl) ?_
      | refine step_pure rfl (pure_shl rfl rfl (by decide)) ?_
      | refine step_pure rfl (pure_shr rfl rfl (by decide)) ?_
      | refine step_pure rfl (pure_conv rfl rfl rfl rfl) ?_
      | refine step_pure rfl (pure_nilCheck rfl) ?_
      | refine step_pure rfl (pure_not rfl) ?_
      | refine step_pure rfl (pure_extract rfl rfl) ?_
      | refine step_pure rfl (pure_max rfl rfl) ?_
      | refine step_pure rfl (pure_min rfl rfl) ?_
      | refine step_pure rfl (pure_ix rfl rfl rfl rfl rfl (by decide) (by decide) rfl) ?_
      | refine step_pure rfl (pure_assign rfl) ?_
      | refine step_nil ?_
      | refine c_seq ?_
      | refine c_region ?_
      | refine c_block ?_
    exact ⟨i + 1, hlt, by omega, less_of ⟨rfl, rfl, rfl, rfl, rfl, rfl, rfl, trivial⟩ rfl⟩
  · have hi8 : i = 8 := by have := of_decide_eq_false h; omega
    clear h
    have hX' : ∀ W, Fx ws bB bK pA S K A W → Gives tb 17 [.pointer (some ⟨bK, 0, none⟩), .pointer (some ⟨bB, 0, none⟩), .agg (row (xbL A (ctr c0 q) i)).toArray] W (.agg (row (X q)).toArray) := fun W h => by
      rw [hi8]; exact hX _ _ _ W q h
    have hq := hXl q
    have hatq := hat q
    generalize xbL A (ctr c0 q) i = x at hxl hX' ⊢
    generalize X q = Z at hX' hatq hq
    clear hX hXl hat hi8 hi
    refine c_exit ?_
    repeat first
      | refine s_seq ?_
      | refine step_pure rfl (pure_load_agg (i := 0) rfl rfl rfl rfl rfl (by simp only [row_len, hxl]; decide) (ints_whole _ _ 16 hxl)) ?_
      | refine step_gives rfl fun17 rfl (fun w hh hk => hX' w (hfx.kc (Kc.mono (ws := []) hk.kc (fun _ h => by cases h)))) ?_
      | refine step_pure rfl (pure_move rfl) ?_
      | refine step_pure rfl (pure_add64 rfl rfl (by omega) (by omega)) ?_
      | refine step_pure rfl (pure_sub64 rfl rfl (by omega) (by omega)) ?_
      | refine step_pure rfl (pure_mul64 rfl rfl (by omega) (by omega)) ?_
      | refine step_pure rfl (pure_rem_pos rfl rfl (by omega) (by decide)) ?_
      | refine step_pure rfl (pure_lss rfl rfl) ?_
      | refine step_pure rfl (pure_leq rfl rfl) ?_
      | refine step_pure rfl (pure_gtr rfl rfl) ?_
      | refine step_pure rfl (pure_geq rfl rfl) ?_
      | refine step_pure rfl (pure_eql rfl rfl) ?_
      | refine step_pure rfl (pure_neq rfl rfl) ?_
      | refine step_pure rfl (pure_xor rfl rfl) ?_
      | refine step_pure rfl (pure_and rfl rfl) ?_
      | refine step_pure rfl (pure_or rfl rfl) ?_
      | refine step_pure rfl (pure_shl rfl rfl (by decide)) ?_
      | refine step_pure rfl (pure_shr rfl rfl (by decide)) ?_
      | refine step_pure rfl (pure_conv rfl rfl rfl rfl) ?_
      | refine step_pure rfl (pure_nilCheck rfl) ?_
      | refine step_pure rfl (pure_not rfl) ?_
      | refine step_pure rfl (pure_extract rfl rfl) ?_
      | refine step_pure rfl (pure_max rfl rfl) ?_
      | refine step_pure rfl (pure_min rfl rfl) ?_
      | refine step_pure rfl (pure_ix rfl rfl rfl rfl rfl (by decide) (by decide) rfl) ?_
      | refine step_pure rfl (pure_assign rfl) ?_
      | refine step_nil ?_
      | refine c_seq ?_
      | refine c_region ?_
      | refine c_block ?_
    refine s_block ?_
    refine s_less (rs' := [(0, .func (.yield l) #[] #[]), (3, .pointer (some ⟨pA, 0, none⟩)), (5, .pointer (some ⟨bB, 0, none⟩)), (6, .pointer (some ⟨bK, 0, none⟩)), (7, .int .u64 (ctr c0 q)), (36, .agg (row Z).toArray), (37, .int .i64 ((0 : Nat) : Int))])
      (m' := []) (less_sub ⟨rfl, rfl, rfl, rfl, rfl, rfl, rfl, trivial⟩ (List.nil_sublist _)) ?_
    refine s_loop (fun k a w => ∃ i W'', k = 16 - i ∧ i ≤ 16 ∧ J (16 * q + i) W'' ∧ Fx ws bB bK pA S K A W'' ∧
      Ok ⟨W'', [], []⟩ 45 [(0, .func (.yield l) #[] #[]), (3, .pointer (some ⟨pA, 0, none⟩)), (5, .pointer (some ⟨bB, 0, none⟩)), (6, .pointer (some ⟨bK, 0, none⟩)), (7, .int .u64 (ctr c0 q)), (36, .agg (row Z).toArray), (37, .int .i64 (i : Nat))] [] a w) 16
      (fun a w ok => ⟨0, W', rfl, by decide, hJq, hfx, ok⟩) ?_
    clear hfx hJq
    rintro k a w2 ⟨i, W'', rfl, hi, hJi, hfx, ok⟩
    refine WPs.run (B := tb) ?_ a w2 ok
    clear ok
    repeat first
      | refine s_seq ?_
      | refine step_pure rfl (pure_move rfl) ?_
      | refine step_pure rfl (pure_add64 rfl rfl (by omega) (by omega)) ?_
      | refine step_pure rfl (pure_sub64 rfl rfl (by omega) (by omega)) ?_
      | refine step_pure rfl (pure_mul64 rfl rfl (by omega) (by omega)) ?_
      | refine step_pure rfl (pure_rem_pos rfl rfl (by omega) (by decide)) ?_
      | refine step_pure rfl (pure_lss rfl rfl) ?_
      | refine step_pure rfl (pure_leq rfl rfl) ?_
      | refine step_pure rfl (pure_gtr rfl rfl) ?_
      | refine step_pure rfl (pure_geq rfl rfl) ?_
      | refine step_pure rfl (pure_eql rfl rfl) ?_
      | refine step_pure rfl (pure_neq rfl rfl) ?_
      | refine step_pure rfl (pure_xor rfl rfl) ?_
      | refine step_pure rfl (pure_and rfl rfl) ?_
      | refine step_pure rfl (pure_or rfl rfl) ?_
      | refine step_pure rfl (pure_shl rfl rfl (by decide)) ?_
      | refine step_pure rfl (pure_shr rfl rfl (by decide)) ?_
      | refine step_pure rfl (pure_conv rfl rfl rfl rfl) ?_
      | refine step_pure rfl (pure_nilCheck rfl) ?_
      | refine step_pure rfl (pure_not rfl) ?_
      | refine step_pure rfl (pure_extract rfl rfl) ?_
      | refine step_pure rfl (pure_max rfl rfl) ?_
      | refine step_pure rfl (pure_min rfl rfl) ?_
      | refine step_pure rfl (pure_ix rfl rfl rfl rfl rfl (by decide) (by decide) rfl) ?_
      | refine step_pure rfl (pure_assign rfl) ?_
      | refine step_nil ?_
      | refine c_seq ?_
      | refine c_region ?_
      | refine c_block ?_
    refine c_cond rfl (fun h => ?_) (fun h => ?_)
    · have hlt : i < 16 := by have := of_decide_eq_true h; omega
      clear h
      refine c_skip ?_
      refine s_seqs (s_block ?_)
      have hget : (row Z)[(i : Int).toNat * 1]? = some (.int .u8 (Z.getD i 0)) := by
        rw [Int.toNat_natCast, Nat.mul_one]; exact row_get Z i (by omega)
      refine s_seq (c_region ?_)
      refine step_pure rfl (pure_index rfl rfl rfl rfl rfl rfl (by omega) (by omega) hget) ?_
      refine step_pure rfl (pure_assign rfl) ?_
      refine step_nil ?_
      refine s_seqs (s_region ?_)
      refine ls_pure rfl (pure_move rfl) rfl ?_
      refine ls_pure rfl (pure_move rfl) rfl ?_
      refine ls_yield (l := l) rfl rfl rfl rfl (fun w hk _ => ?_)
      have hJw := hJ _ _ _ hJi hk
      have hfw := hfx.kc (Kc.mono (ws := []) hk.kc (fun _ h => by cases h))
      have hy := hY _ _ hJw trivial
      have he : strE key A c0 (16 * q + i) = [Value.int .u8 (Z.getD i 0)].toArray := by unfold strE; rw [hatq i hlt]
      rw [he] at hy
      refine ⟨_, hy, ?_⟩
      rintro e w3 (⟨rfl, hJ3, hk3⟩ | ⟨rfl, hx3⟩)
      · refine ⟨_, rfl, ?_⟩
        have hf3 := hfw.kc hk3
        refine ls_pure rfl (pure_not rfl) rfl ?_
        refine ls_nil fun a4 w4 ok4 => ?_
        refine WPs.run (B := tb) ?_ a4 w4 ok4
        refine s_cond rfl (fun h => by cases h) (fun _ => s_wp (c_skip ?_))
        intro a5 w5 ok5
        refine WPs.run (B := tb) ?_ a5 w5 ok5
        refine s_wp ?_
        repeat first
          | refine step_pure rfl (pure_move rfl) ?_
          | refine step_pure rfl (pure_add64 rfl rfl (by omega) (by omega)) ?_
          | refine step_pure rfl (pure_sub64 rfl rfl (by omega) (by omega)) ?_
          | refine step_pure rfl (pure_mul64 rfl rfl (by omega) (by omega)) ?_
          | refine step_pure rfl (pure_rem_pos rfl rfl (by omega) (by decide)) ?_
          | refine step_pure rfl (pure_lss rfl rfl) ?_
          | refine step_pure rfl (pure_leq rfl rfl) ?_
          | refine step_pure rfl (pure_gtr rfl rfl) ?_
          | refine step_pure rfl (pure_geq rfl rfl) ?_
          | refine step_pure rfl (pure_eql rfl rfl) ?_
          | refine step_pure rfl (pure_neq rfl rfl) ?_
          | refine step_pure rfl (pure_xor rfl rfl) ?_
          | refine step_pure rfl (pure_and rfl rfl) ?_
          | refine step_pure rfl (pure_or rfl rfl) ?_
          | refine step_pure rfl (pure_shl rfl rfl (by decide)) ?_
          | refine step_pure rfl (pure_shr rfl rfl (by decide)) ?_
          | refine step_pure rfl (pure_conv rfl rfl rfl rfl) ?_
          | refine step_pure rfl (pure_nilCheck rfl) ?_
          | refine step_pure rfl (pure_not rfl) ?_
          | refine step_pure rfl (pure_extract rfl rfl) ?_
          | refine step_pure rfl (pure_max rfl rfl) ?_
          | refine step_pure rfl (pure_min rfl rfl) ?_
          | refine step_pure rfl (pure_ix rfl rfl rfl rfl rfl (by decide) (by decide) rfl) ?_
          | refine step_pure rfl (pure_assign rfl) ?_
          | refine step_nil ?_
          | refine c_seq ?_
          | refine c_region ?_
          | refine c_block ?_
        intro a6 w6 ok6
        refine ⟨16 - (i + 1), by omega, i + 1, w3, rfl, by omega, hJ3, hf3, ok6.less ⟨rfl, rfl, rfl, rfl, rfl, rfl, rfl, trivial⟩⟩
      · refine ⟨_, rfl, ?_⟩
        refine ls_pure rfl (pure_not rfl) rfl ?_
        refine ls_nil fun a4 w4 ok4 => ?_
        refine WPs.run (B := tb) ?_ a4 w4 ok4
        refine s_cond rfl (fun _ => s_wp (c_ret ?_)) (fun h => by cases h)
        intro a5 w5 ok5
        exact ends_plain (.inr rfl) ok5 rfl (res_none Try.results24) ⟨⟨_, rfl⟩, .inr ⟨_, hJx _ _ _ hx3 ok5.keep⟩⟩
    · have hi16 : i = 16 := by have := of_decide_eq_false h; omega
      subst hi16
      refine c_exit ?_
      intro a3 w3 ok3
      refine exit_then (exit_here ?_)
      refine WPs.run (B := tb) ?_ a3 w3 ok3
      refine s_wp ?_
      repeat first
        | refine step_pure rfl (pure_add rfl rfl) ?_
        | refine step_pure rfl (pure_move rfl) ?_
        | refine step_pure rfl (pure_add64 rfl rfl (by omega) (by omega)) ?_
        | refine step_pure rfl (pure_sub64 rfl rfl (by omega) (by omega)) ?_
        | refine step_pure rfl (pure_mul64 rfl rfl (by omega) (by omega)) ?_
        | refine step_pure rfl (pure_rem_pos rfl rfl (by omega) (by decide)) ?_
        | refine step_pure rfl (pure_lss rfl rfl) ?_
        | refine step_pure rfl (pure_leq rfl rfl) ?_
        | refine step_pure rfl (pure_gtr rfl rfl) ?_
        | refine step_pure rfl (pure_geq rfl rfl) ?_
        | refine step_pure rfl (pure_eql rfl rfl) ?_
        | refine step_pure rfl (pure_neq rfl rfl) ?_
        | refine step_pure rfl (pure_xor rfl rfl) ?_
        | refine step_pure rfl (pure_and rfl rfl) ?_
        | refine step_pure rfl (pure_or rfl rfl) ?_
        | refine step_pure rfl (pure_shl rfl rfl (by decide)) ?_
        | refine step_pure rfl (pure_shr rfl rfl (by decide)) ?_
        | refine step_pure rfl (pure_conv rfl rfl rfl rfl) ?_
        | refine step_pure rfl (pure_nilCheck rfl) ?_
        | refine step_pure rfl (pure_not rfl) ?_
        | refine step_pure rfl (pure_extract rfl rfl) ?_
        | refine step_pure rfl (pure_max rfl rfl) ?_
        | refine step_pure rfl (pure_min rfl rfl) ?_
        | refine step_pure rfl (pure_ix rfl rfl rfl rfl rfl (by decide) (by decide) rfl) ?_
        | refine step_pure rfl (pure_assign rfl) ?_
        | refine step_nil ?_
        | refine c_seq ?_
        | refine c_region ?_
        | refine c_block ?_
      intro a4 w4 ok4
      exact ⟨M + 1 - 16 * (q + 1), by omega, q + 1, W'', rfl, hJi, hfx, ok4.less ⟨rfl, rfl, rfl, rfl, rfl, trivial⟩⟩
end Go.Proofs.Ytgpjbfedbncniaa
