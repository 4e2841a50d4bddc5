/- The program's Keys and Block, walked. -/
import Derived.Test.YthieegnhjoehbaaAA
import Derived.Test.YthieegnhjoehbaaVe
import Derived.Test.YthieegnhjoehbaaVr
import Derived.Test.YthieegnhjoehbaaAB
namespace Go.Proofs.Ythieegnhjoehbaa
open Go.RowKit Go.Vc
set_option linter.unusedVariables false
set_option maxRecDepth 100000
theorem has_row {w : World} {m : Mem} {j b n : Nat} {l : List Int} {T : TypeId} (hh : Has w m) (he : nth m j = some ⟨b, row l, T⟩) (hl : l.length = n) :
  ∀ i, i < n → w.cell? ⟨b, i, none⟩ = some (.int .u8 (l.getD i 0)) := by
 intro i hi
 have hg := row_get l i (by omega)
 exact cell_of (hh.cell (nth_mem he) (fun h => by rw [show row l = [] from h] at hg; cases hg)) hg
theorem boxT_all : boxT.all (fun x => decide (0 ≤ x ∧ x < 256)) = true := by decide +kernel
theorem boxT_bytes : Bytes boxT := fun x hx => by
 have := List.all_eq_true.1 boxT_all x hx
 exact of_decide_eq_true this
end Go.Proofs.Ythieegnhjoehbaa
/- The program's stream: what its iterator hands out. -/
namespace Go.Proofs.Ythieegnhjoehbaa
open Go.RowKit Go.Vc
set_option linter.unusedVariables false
set_option maxRecDepth 100000
/-- The block that is enciphered: eight bytes ahead, eight of the counter, the first i of them written. -/
def xbL (A : List Int) (n : Int) : Nat → List Int
 | 0 => A ++ zeros 8
 | i + 1 => (xbL A n i).set (8 + i) (IntKind.u8.wrap (n / 2 ^ min (56 - 8 * (i : Int)).toNat IntKind.u64.bits))
theorem xbL_len (A : List Int) (n : Int) (h : A.length = 8) (i : Nat) : (xbL A n i).length = 16 := by
 induction i with
 | zero => simp [xbL, h, zeros]
 | succ i ih => exact (List.length_set ..).trans ih
theorem xbL_bytes (A : List Int) (n : Int) (h : Bytes A) (i : Nat) : Bytes (xbL A n i) := by
 induction i with
 | zero => exact h.append (Bytes.replicate 8)
 | succ i ih => exact ih.set _ (by rw [wrap_u8]; omega)
def ctr (c0 : Int) : Nat → Int
 | 0 => c0
 | q + 1 => IntKind.u64.wrap (ctr c0 q + 1)
def strB (key A : List Int) (c0 : Int) (q : Nat) : List Int := blkF boxT (expF boxT key) (xbL A (ctr c0 q) 8)
def strAt (key A : List Int) (c0 : Int) (k : Nat) : Int := (strB key A c0 (k / 16)).getD (k % 16) 0
theorem strAt_is (key A : List Int) (c0 : Int) (q i : Nat) (h : i < 16) : strAt key A c0 (16 * q + i) = (strB key A c0 q).getD i 0 := by
 unfold strAt
 rw [show (16 * q + i) / 16 = q by omega, show (16 * q + i) % 16 = i by omega]
def strE (key A : List Int) (c0 : Int) (k : Nat) : Array Value := #[.int .u8 (strAt key A c0 k)]
/-- What the iterator goes on knowing. -/
structure Fx (ws : List Nat) (bB bK pA : Nat) (S K A : List Int) (W : World) : Prop where
 box : W.heap[bB]? = some (.cells (row S).toArray 137 (0, 0))
 keys : W.heap[bK]? = some (.cells (row K).toArray 124 (0, 0))
 ahead : W.heap[pA]? = some (.cells (row A).toArray 68 (0, 0))
 nB : bB ∉ ws
 nK : bK ∉ ws
 nA : pA ∉ ws
theorem Fx.kc {ws : List Nat} {bB bK pA : Nat} {S K A : List Int} {W W' : World} (h : Fx ws bB bK pA S K A W) (k : Kc ws W W') : Fx ws bB bK pA S K A W' :=
 ⟨k.cells _ _ _ _ h.nB h.box, k.cells _ _ _ _ h.nK h.keys, k.cells _ _ _ _ h.nA h.ahead, h.nB, h.nK, h.nA⟩
def p24a : List Nat := [1, 9, 20]
set_option maxHeartbeats 2000000 in
theorem stream_iter (key A : List Int) (c : Int) (pK pF pA : Nat) (w : World) (ws : List Nat) (hkl : key.length = 16) (hkb : Bytes key) (hAl : A.length = 8) (hAb : Bytes A)
  (hK : w.heap[pK]? = some (.cells (row key).toArray 28 (0, 0))) (hF : w.cell? ⟨pF, 0, none⟩ = some (.int .i64 c)) (hA : w.heap[pA]? = some (.cells (row A).toArray 68 (0, 0)))
  (hnA : pA ∉ ws) (hws : ∀ x ∈ ws, x < w.heap.size) :
  IterC tb.P 85 #[.pointer (some ⟨pK, 0, none⟩), .pointer (some ⟨pF, 0, none⟩), .pointer (some ⟨pA, 0, none⟩)] (strE key A (IntKind.u64.wrap c)) ws (fun _ => True) (fun _ => False) w := by
 intro M l J Jx W hw hJ hJx hM hY h0
 have hK' : W.heap[pK]? = some (.cells (row key).toArray 28 (0, 0)) := (hw.block _ (lt_of_heap hK) (by simp)).trans hK
 have hA' : W.heap[pA]? = some (.cells (row A).toArray 68 (0, 0)) := (hw.block _ (lt_of_heap hA) (by simp)).trans hA
 have hF' : W.cell? ⟨pF, 0, none⟩ = some (.int .i64 c) := by
  have hlt := World.block_lt_of_cell? _ _ hF
  unfold World.cell? at hF ⊢
  rw [hw.block _ hlt (by simp)]
  exact hF
 have hWs : ∀ x ∈ ws, x < W.heap.size := fun x hx => Nat.lt_of_lt_of_le (hws x hx) hw.size
 refine calls_sem (B := tb) (fn := Try.f85) (vs := [.func (.yield l) #[] #[], .pointer (some ⟨pK, 0, none⟩), .pointer (some ⟨pF, 0, none⟩), .pointer (some ⟨pA, 0, none⟩)]) Try.func85 rfl Try.ntmps85 rfl ?_
 have hKl := expF_len boxT key hkl
 have hSl := boxT_len
 have hS : ∀ bb w m, Has w m → (∃ j, nth m j = some ⟨bb, row boxT, 137⟩) → Gives tb 87 [.agg (row key).toArray, .pointer (some ⟨bb, 0, none⟩)] w (.agg (row (expF boxT key)).toArray) :=
  fun bb w m hh ⟨j, hj⟩ => expanded_any key boxT bb w hkl hkb (has_row hh hj boxT_len)
 have hX : ∀ bB bK pA W q, Fx ws bB bK pA boxT (expF boxT key) A W → Gives tb 88 [.pointer (some ⟨bK, 0, none⟩), .pointer (some ⟨bB, 0, none⟩), .agg (row (xbL A (ctr (IntKind.u64.wrap c) q) 8)).toArray] W
   (.agg (row (strB key A (IntKind.u64.wrap c) q)).toArray) := fun bB bK pA W q h =>
  block_any boxT (expF boxT key) _ bK bB W (xbL_len A _ hAl 8) (xbL_bytes A _ hAb 8) boxT_bytes
   (fun i hi => cell_of h.keys (row_get _ _ (by rw [expF_len boxT key hkl]; exact hi))) (fun i hi => cell_of h.box (row_get _ _ (by rw [boxT_len]; exact hi)))
 have hXl : ∀ q, (strB key A (IntKind.u64.wrap c) q).length = 16 := fun q => blkF_len _ _ _ (xbL_len A _ hAl 8)
 have hB := boxes_any
 have hat := strAt_is key A (IntKind.u64.wrap c)
 generalize strB key A (IntKind.u64.wrap c) = X at hX hXl hat
 generalize expF boxT key = K at hKl hS hX
 generalize boxT = S at hSl hS hB hX
 have hc0 : (IntKind.u64.wrap c) = ctr (IntKind.u64.wrap c) 0 := rfl
 repeat first
  | refine s_seq ?_
  | refine step_alloc rfl zero137 (fun bB => ?_)
  | refine step_alloc rfl zero124 (fun bK => ?_)
  | refine step_gives rfl fun86 rfl (fun w _ _ => hB w) ?_
  | refine step_store_agg 0 rfl rfl rfl (row_one _) rfl (by rw [row_len]; exact hSl) rfl rfl (by simp only [row_len, zeros_len]; decide) (splice_all (by simp only [row_len, zeros_len, hSl])) ?_
  | refine step_pure rfl (pure_view_agg rfl rfl rfl hK' (by simp) (by simp only [row_len, hkl]; decide) (ints_whole _ _ 16 hkl)) ?_
  | refine step_pure rfl (pure_view rfl rfl rfl hF' (by simp)) ?_
  | refine step_gives rfl fun87 rfl (fun w hh _ => hS _ w _ hh ⟨0, rfl⟩) ?_
  | refine step_store_agg 0 rfl rfl rfl (row_one _) rfl (by rw [row_len]; exact hKl) rfl rfl (by simp only [row_len, zeros_len]; decide) (splice_all (by simp only [row_len, zeros_len, hKl])) ?_
  | refine step_pure rfl (pure_conv rfl rfl rfl rfl) ?_
  | refine qa rfl rfl ?_
  | refine step_nil ?_
  | refine c_region ?_
 refine s_block ?_
 obtain ⟨c0, hcc⟩ : ∃ c0, c0 = IntKind.u64.wrap c := ⟨_, rfl⟩
 rw [← hcc] at hX hY hat hc0 ⊢
 clear hcc
 have hrow : ∀ l : List Int, 0 < l.length → row l ≠ [] := fun l hl h => by
  have := row_len l
  rw [h] at this
  simp at this
  omega
 refine s_less (rs' := [(0, .func (.yield l) #[] #[]), (3, .pointer (some ⟨pA, 0, none⟩)), (5, .pointer (some ⟨bB, 0, none⟩)), (6, .pointer (some ⟨bK, 0, none⟩)), (7, .int .u64 (ctr c0 0))])
  (m' := [⟨bK, row K, 124⟩, ⟨bB, row S, 137⟩]) (less_of ⟨rfl, rfl, rfl, rfl, rfl, trivial⟩ rfl) ?_
 refine s_loop (fun k a w => ∃ q W', k = M + 1 - 16 * q ∧ J (16 * q) W' ∧ Fx ws bB bK pA S K A W' ∧
  Ok ⟨W', [], []⟩ 45 [(0, .func (.yield l) #[] #[]), (3, .pointer (some ⟨pA, 0, none⟩)), (5, .pointer (some ⟨bB, 0, none⟩)), (6, .pointer (some ⟨bK, 0, none⟩)), (7, .int .u64 (ctr c0 q))] [] a w) (M + 1) ?_ ?_
 ·intro a w1 ok
  have hK1 := hrow K (by omega)
  have hS1 := hrow S (by omega)
  have hnew : ∀ b, W.heap.size ≤ b ∨ b ∈ ([] : List Nat) → b ∉ ws := fun b hb hx => by
   rcases hb with hb | hb
   ·have := hWs b hx; omega
   ·cases hb
  exact ⟨0, w1, rfl, hJ _ _ _ h0 ok.keep, ⟨ok.has.2.2.1 hS1, ok.has.1 hK1, (ok.keep.block _ (lt_of_heap hA') (by simp)).trans hA', hnew _ (ok.own.2.1 hS1), hnew _ (ok.own.1 hK1), hnA⟩, ok.fresh⟩
 rintro k a w1 ⟨q, W', rfl, hJq, hfx, ok⟩
 have h16 := hM _ _ hJq
 refine WPs.run (B := tb) ?_ a w1 ok
 clear ok
 refine s_seqs (s_block ?_)
 repeat first
  | refine s_seq ?_
  | refine step_alloc rfl zero28 (fun bX => ?_)
  | refine step_nil ?_
  | refine c_region ?_
 refine d_region p24a follows (by kernel_rfl) ?_
 refine d_pure0 rfl rfl rfl (pure_slice_all rfl rfl rfl rfl) ?_
 refine d_pure0 rfl rfl rfl (pure_slice_all rfl rfl rfl rfl) ?_
 refine d_only rfl rfl rfl rfl (eff_copy (i := 0) (q := 8) (news := row A) rfl rfl rfl rfl rfl rfl rfl rfl rfl (by rw [row_len, hAl]; rfl) ?_ (row_one _) (by simp only [row_len, zeros_len, hAl]; decide) (hrow _ (by decide))) ?_ rfl
 ·intro w2 _ hk2
  have := (hk2.block _ (lt_of_heap hfx.ahead) (by simp)).trans hfx.ahead
  simp only [Builtin.firstCells]
  rw [Go.Vc.run_loadCells this (8 * 1) (by simp only [row_len, hAl]; decide), ints_whole _ _ 8 hAl]
 rintro v m' ⟨rfl, rfl⟩
 refine ⟨fun h => (by cases h), ?_⟩
 have hx0 : splice (row (zeros 16)) 0 (row A) = row (xbL A (ctr c0 q) 0) := by
  rw [ints_splice]; unfold splice; rw [hAl]; rfl
 refine d_nil ?_
 simp only [setAt, hx0]
 repeat first
  | refine s_seq ?_
  | refine qm rfl rfl ?_
  | refine step_nil ?_
  | refine c_seq ?_
  | refine c_region ?_
  | refine c_block ?_
 refine c_loop (α := Nat) (fun i => [(0, .func (.yield l) #[] #[]), (3, .pointer (some ⟨pA, 0, none⟩)), (5, .pointer (some ⟨bB, 0, none⟩)), (6, .pointer (some ⟨bK, 0, none⟩)), (7, .int .u64 (ctr c0 q)), (8, .pointer (some ⟨bX, 0, none⟩)), (22, .int .i64 i)])
  (fun i => [⟨bX, row (xbL A (ctr c0 q) i), 28⟩]) (fun i => i ≤ 8) (fun i => 8 - i) 0 (by decide) (less_of ⟨rfl, rfl, rfl, rfl, rfl, rfl, rfl, trivial⟩ rfl) ?_
 intro i hi
 have hxl := xbL_len A (ctr c0 q) hAl i
 repeat first
  | refine step_pure rfl (pure_lss rfl rfl) ?_
  | refine step_nil ?_
  | refine c_seq ?_
  | refine c_region ?_
 refine c_cond rfl (fun h => ?_) (fun h => ?_)
 ·have hlt : i < 8 := by have := of_decide_eq_true h; omega
  clear h
  refine c_skip ?_
  repeat first
   | refine step_pure rfl (pure_shr rfl rfl (by omega)) ?_
   | refine step_pure rfl (pure_ix (off' := 8 + i) rfl rfl rfl rfl rfl (by omega) (by omega) (by show 0 + (8 + (i : Int)).toNat * 1 = _; omega)) ?_
   | refine step_store 0 rfl rfl rfl rfl rfl rfl rfl rfl (by rw [row_len]; omega) (row_set _ _ _) ?_
   | refine qm rfl rfl ?_
   | refine step_pure rfl (pure_add64 rfl rfl (by omega) (by omega)) ?_
   | refine step_pure rfl (pure_sub64 rfl rfl (by omega) (by omega)) ?_
   | refine step_pure rfl (pure_mul64 rfl rfl (by omega) (by omega)) ?_
   | refine step_pure rfl (pure_conv rfl rfl rfl rfl) ?_
   | refine qa rfl rfl ?_
   | refine step_nil ?_
   | refine c_seq ?_
   | refine c_region ?_
   | refine c_block ?_
  exact ⟨i + 1, hlt, by omega, less_of ⟨rfl, rfl, rfl, rfl, rfl, rfl, rfl, trivial⟩ rfl⟩
 ·have hi8 : i = 8 := by have := of_decide_eq_false h; omega
  clear h
  have hX' : ∀ W, Fx ws bB bK pA S K A W → Gives tb 88 [.pointer (some ⟨bK, 0, none⟩), .pointer (some ⟨bB, 0, none⟩), .agg (row (xbL A (ctr c0 q) i)).toArray] W (.agg (row (X q)).toArray) := fun W h => by
   rw [hi8]; exact hX _ _ _ W q h
  have hq := hXl q
  have hatq := hat q
  generalize xbL A (ctr c0 q) i = x at hxl hX' ⊢
  generalize X q = Z at hX' hatq hq
  clear hX hXl hat hi8 hi
  refine c_exit ?_
  repeat first
   | refine s_seq ?_
   | refine step_pure rfl (pure_load_agg (i := 0) rfl rfl rfl rfl rfl (by simp only [row_len, hxl]; decide) (ints_whole _ _ 16 hxl)) ?_
   | refine step_gives rfl fun88 rfl (fun w hh hk => hX' w (hfx.kc (Kc.mono (ws := []) hk.kc (fun _ h => by cases h)))) ?_
   | refine qm rfl rfl ?_
   | refine step_nil ?_
   | refine c_region ?_
  refine s_block ?_
  refine s_less (rs' := [(0, .func (.yield l) #[] #[]), (3, .pointer (some ⟨pA, 0, none⟩)), (5, .pointer (some ⟨bB, 0, none⟩)), (6, .pointer (some ⟨bK, 0, none⟩)), (7, .int .u64 (ctr c0 q)), (36, .agg (row Z).toArray), (37, .int .i64 ((0 : Nat) : Int))])
   (m' := []) (less_sub ⟨rfl, rfl, rfl, rfl, rfl, rfl, rfl, trivial⟩ (List.nil_sublist _)) ?_
  refine s_loop (fun k a w => ∃ i W'', k = 16 - i ∧ i ≤ 16 ∧ J (16 * q + i) W'' ∧ Fx ws bB bK pA S K A W'' ∧
   Ok ⟨W'', [], []⟩ 45 [(0, .func (.yield l) #[] #[]), (3, .pointer (some ⟨pA, 0, none⟩)), (5, .pointer (some ⟨bB, 0, none⟩)), (6, .pointer (some ⟨bK, 0, none⟩)), (7, .int .u64 (ctr c0 q)), (36, .agg (row Z).toArray), (37, .int .i64 (i : Nat))] [] a w) 16
   (fun a w ok => ⟨0, W', rfl, by decide, hJq, hfx, ok⟩) ?_
  clear hfx hJq
  rintro k a w2 ⟨i, W'', rfl, hi, hJi, hfx, ok⟩
  refine WPs.run (B := tb) ?_ a w2 ok
  clear ok
  repeat first
   | refine s_seq ?_
   | refine step_pure rfl (pure_lss rfl rfl) ?_
   | refine step_nil ?_
   | refine c_region ?_
  refine c_cond rfl (fun h => ?_) (fun h => ?_)
  ·have hlt : i < 16 := by have := of_decide_eq_true h; omega
   clear h
   refine c_skip ?_
   refine s_seqs (s_block ?_)
   have hget : (row Z)[(i : Int).toNat * 1]? = some (.int .u8 (Z.getD i 0)) := by
    rw [Int.toNat_natCast, Nat.mul_one]; exact row_get Z i (by omega)
   refine s_seq (c_region ?_)
   refine step_pure rfl (pure_index rfl rfl rfl rfl rfl rfl (by omega) (by omega) hget) ?_
   refine qa rfl rfl ?_
   refine step_nil ?_
   refine s_seqs (s_region ?_)
   refine ls_pure rfl (pure_move rfl) rfl ?_
   refine ls_pure rfl (pure_move rfl) rfl ?_
   refine ls_yield (l := l) rfl rfl rfl rfl (fun w hk _ => ?_)
   have hJw := hJ _ _ _ hJi hk
   have hfw := hfx.kc (Kc.mono (ws := []) hk.kc (fun _ h => by cases h))
   have hy := hY _ _ hJw trivial
   have he : strE key A c0 (16 * q + i) = [Value.int .u8 (Z.getD i 0)].toArray := by unfold strE; rw [hatq i hlt]
   rw [he] at hy
   refine ⟨_, hy, ?_⟩
   rintro e w3 (⟨rfl, hJ3, hk3⟩ | ⟨rfl, hx3⟩)
   ·refine ⟨_, rfl, ?_⟩
    have hf3 := hfw.kc hk3
    refine ls_pure rfl (pure_not rfl) rfl ?_
    refine ls_nil fun a4 w4 ok4 => ?_
    refine WPs.run (B := tb) ?_ a4 w4 ok4
    refine s_cond rfl (fun h => by cases h) (fun _ => s_wp (c_skip ?_))
    intro a5 w5 ok5
    refine WPs.run (B := tb) ?_ a5 w5 ok5
    refine s_wp ?_
    repeat first
     | refine qm rfl rfl ?_
     | refine step_pure rfl (pure_add64 rfl rfl (by omega) (by omega)) ?_
     | refine step_nil ?_
     | refine c_region ?_
    intro a6 w6 ok6
    refine ⟨16 - (i + 1), by omega, i + 1, w3, rfl, by omega, hJ3, hf3, ok6.less ⟨rfl, rfl, rfl, rfl, rfl, rfl, rfl, trivial⟩⟩
   ·refine ⟨_, rfl, ?_⟩
    refine ls_pure rfl (pure_not rfl) rfl ?_
    refine ls_nil fun a4 w4 ok4 => ?_
    refine WPs.run (B := tb) ?_ a4 w4 ok4
    refine s_cond rfl (fun _ => s_wp (c_ret ?_)) (fun h => by cases h)
    intro a5 w5 ok5
    exact ends_plain (.inr rfl) ok5 rfl (res_none Try.results85) ⟨⟨_, rfl⟩, .inr ⟨_, hJx _ _ _ hx3 ok5.keep⟩⟩
  ·have hi16 : i = 16 := by have := of_decide_eq_false h; omega
   subst hi16
   refine c_exit ?_
   intro a3 w3 ok3
   refine exit_then (exit_here ?_)
   refine WPs.run (B := tb) ?_ a3 w3 ok3
   refine s_wp ?_
   repeat first
    | refine step_pure rfl (pure_add rfl rfl) ?_
    | refine qm rfl rfl ?_
    | refine qa rfl rfl ?_
    | refine step_nil ?_
    | refine c_region ?_
   intro a4 w4 ok4
   exact ⟨M + 1 - 16 * (q + 1), by omega, q + 1, W'', rfl, hJi, hfx, ok4.less ⟨rfl, rfl, rfl, rfl, rfl, trivial⟩⟩
end Go.Proofs.Ythieegnhjoehbaa
/- The program's Stream, walked. -/
namespace Go.Proofs.Ythieegnhjoehbaa
open Go.RowKit Go.Vc
set_option linter.unusedVariables false
set_option maxRecDepth 100000
def u8T : Ty := ⟨.int .u8, 1, false⟩
theorem elemU8 : ElemIs tb 5 u8T 1 [.int .u8 0] := elem5
theorem stream21 (key A : List Int) (c : Int) (w : World) :
  Makes tb 70 [.agg (row key).toArray, .agg (row A).toArray, .int .i64 c] w fun v m' => ∃ pK pF pA,
   v = .func (.func 85) #[] #[.pointer (some ⟨pK, 0, none⟩), .pointer (some ⟨pF, 0, none⟩), .pointer (some ⟨pA, 0, none⟩)] ∧
   m' = [⟨pF, [.int .i64 c], 3⟩, ⟨pA, row A, 68⟩, ⟨pK, row key, 28⟩] := by
 refine makes_of (fn := Try.f70) Try.func70 rfl Try.ntmps70 rfl ?_
 repeat first
  | refine step_box_agg rfl rfl (fun pK => ?_)
  | refine step_box rfl rfl rfl (fun pF => ?_)
  | refine step_pure rfl (pure_makeFunc rfl) ?_
  | refine qa rfl rfl ?_
  | refine step_nil ?_
  | refine c_seq ?_
  | refine c_region ?_
 exact c_ret ⟨_, res_tmp Try.results70 rfl, _, List.Sublist.refl _, _, _, _, rfl, rfl⟩
/-- What the stream comes to. -/
def outAt (key A bs : List Int) (c : Int) (i : Nat) : Int := bits .xor .u8 (bs.getD i 0) (strAt key A (IntKind.u64.wrap c) i)
def outF (key A bs : List Int) (c : Int) : List Int := (List.range bs.length).map (outAt key A bs c)
/-- The row while it is filled. -/
def outL (key A bs : List Int) (c : Int) (k : Nat) : List Int := (List.range k).map (outAt key A bs c) ++ zeros (bs.length - k)
theorem outL_len (key A bs : List Int) (c : Int) (k : Nat) (h : k ≤ bs.length) : (outL key A bs c k).length = bs.length := by
 simp [outL, zeros]; omega
theorem outL_succ (key A bs : List Int) (c : Int) (k : Nat) (h : k < bs.length) : splice (outL key A bs c k) k [outAt key A bs c k] = outL key A bs c (k + 1) := by
 unfold outL
 have hl : ((List.range k).map (outAt key A bs c)).length = k := by simp
 obtain ⟨r, hr⟩ : ∃ r, bs.length - k = r + 1 := ⟨bs.length - k - 1, by omega⟩
 have hr2 : bs.length - (k + 1) = r := by omega
 rw [hr, hr2]
 generalize hL : (List.range k).map (outAt key A bs c) = L at hl
 have hz : zeros (r + 1) = 0 :: zeros r := rfl
 unfold splice
 rw [hz, List.take_left' hl, List.range_succ, List.map_append, hL, List.drop_append, hl]
 simp
 omega
def p13 : List Nat := [3, 9, 19, 25, 33, 41, 49, 57, 69, 76, 84]
theorem rowOf_u8 (k : Nat) : rowOf [.int .u8 0] k = row (zeros k) := by
 unfold rowOf madeCells row ints zeros
 simp [Nat.mod_one]
 rw [List.map_const', List.length_range]
/-- What stands in memory when k bytes have been written. -/
structure Fo (key A bs : List Int) (c : Int) (p : Addr) (cap bOut bArr bSl k : Nat) (W : World) : Prop where
 out : W.heap[bOut]? = some (.cells [Value.slice (some ⟨bArr, 0, none⟩) k bs.length].toArray 22 (0, 0))
 arr : W.heap[bArr]? = some (.cells (row (outL key A bs c k)).toArray 5 (0, 0))
 sl : W.heap[bSl]? = some (.cells [Value.slice (some p) bs.length cap].toArray 22 (0, 0))
 src : ∀ j x, (row bs)[j]? = some x → W.cell? (p.add j) = some x
theorem Fo.kc {key A bs : List Int} {c : Int} {p : Addr} {cap bOut bArr bSl k : Nat} {W W' : World} (h : Fo key A bs c p cap bOut bArr bSl k W) (kc : Kc [] W W') : Fo key A bs c p cap bOut bArr bSl k W' :=
 ⟨kc.cells _ _ _ _ (by simp) h.out, kc.cells _ _ _ _ (by simp) h.arr, kc.cells _ _ _ _ (by simp) h.sl, fun j x hx => kc.cell (by simp) (h.src j x hx)⟩
set_option maxHeartbeats 2000000 in
theorem stream13 (key A bs : List Int) (c : Int) (v3 : Value) (w : World) (hkl : key.length = 16) (hkb : Bytes key) (hAl : A.length = 8) (hAb : Bytes A)
  (hv : SlV w v3 (row bs)) (hbig : bs.length ≤ 140737488355328) :
  Makes tb 50 [.agg (row key).toArray, .agg (row A).toArray, .int .i64 c, v3] w fun v m' => ∃ base len cap e,
   v = .tuple #[.slice base len cap, .int .i64 (if c < 0 then 1 else 0)] ∧ m' = [e] ∧ SlIs u8T 5 e base len cap (row (if c < 0 then [] else outF key A bs c)) := by
 obtain ⟨base, cap, rfl, hbase⟩ := hv.is
 rw [row_len]
 refine ⟨calls_sem (B := tb) (fn := Try.f50) (vs := [.agg (row key).toArray, .agg (row A).toArray, .int .i64 c, .slice base bs.length cap]) Try.func50 rfl Try.ntmps50 rfl ?_⟩
 repeat first
  | refine s_seq ?_
  | refine step_box_agg rfl rfl (fun bK0 => ?_)
  | refine step_box rfl rfl rfl (fun bSl => ?_)
  | refine qm rfl rfl ?_
  | refine step_pure rfl (pure_lss rfl rfl) ?_
  | refine qa rfl rfl ?_
  | refine step_nil ?_
  | refine c_seq ?_
  | refine c_region ?_
 refine c_cond rfl (fun h => ?_) (fun h => ?_)
 ·have hc : c < 0 := of_decide_eq_true h
  repeat first
   | refine qa rfl rfl ?_
   | refine step_nil ?_
   | refine c_seq ?_
   | refine c_region ?_
  refine c_ret ?_
  intro a w1 ok
  rw [if_pos hc, if_pos hc]
  exact ends_plain (.inr rfl) ok rfl (res_tmp2 Try.results50 rfl rfl) ⟨_, [hole], rfl, ⟨none, 0, 0, hole, rfl, rfl, sl_nil _ _ (by decide)⟩, has_hole.2 trivial, own_hole.2 trivial, ok.keep⟩
 ·have hc : ¬ c < 0 := of_decide_eq_false h
  clear h
  rw [if_neg hc, if_neg hc]
  refine c_skip ?_
  repeat first
   | refine s_seq ?_
   | refine step_pure rfl (pure_load (i := 0) rfl rfl rfl rfl rfl rfl) ?_
   | refine step_pure rfl (pure_len_slice rfl rfl rfl) ?_
   | refine step_make (l := 0) (c := bs.length) rfl rfl rfl rfl rfl elemU8 (Nat.zero_le _) (by omega) (by omega) (fun bArr => ?_)
   | refine step_alloc rfl zero22 (fun bOut => ?_)
   | refine step_store 0 rfl rfl rfl rfl rfl rfl rfl rfl (by show 0 < 1; decide) rfl ?_
   | refine step_nil ?_
   | refine c_seq ?_
   | refine c_region ?_
  generalize hz : rowOf [Value.int .u8 0] (bs.length * u8T.size) = zs
  have hzs : zs = row (zeros bs.length) := by rw [← hz, ← rowOf_u8, show bs.length * u8T.size = bs.length from Nat.mul_one _]
  subst hzs
  clear hz
  repeat first
   | refine step_pure rfl (pure_load (i := 2) rfl rfl rfl rfl rfl rfl) ?_
   | refine step_pure rfl (pure_len_slice rfl rfl rfl) ?_
   | refine step_pure rfl (pure_eql rfl rfl) ?_
   | refine step_nil ?_
  refine c_cond rfl (fun h => ?_) (fun h => ?_)
  ·have hlen : bs.length = 0 := by have := eq_of_beq h; omega
   have hbs : bs = [] := List.eq_nil_of_length_eq_zero hlen
   subst hbs
   clear h
   repeat first
    | refine step_pure rfl (pure_load (i := 0) rfl rfl rfl rfl rfl rfl) ?_
    | refine qa rfl rfl ?_
    | refine step_nil ?_
    | refine c_seq ?_
    | refine c_region ?_
   refine c_ret ?_
   intro a w1 ok
   refine ends_plain (.inr rfl) ok rfl (res_tmp2 Try.results50 rfl rfl) ⟨_, [hole], rfl, ⟨_, 0, 0, hole, rfl, rfl, ⟨rfl, Nat.le_refl _, fun h => absurd rfl h, rfl⟩⟩, has_hole.2 trivial, own_hole.2 trivial, ok.keep⟩
  ·have hlen : bs.length ≠ 0 := by
    intro h0
    rw [h0] at h
    exact absurd h (by decide)
   clear h
   obtain ⟨p, rfl, hcells⟩ := hbase (by intro h; exact hlen (by rw [← row_len bs, h]; rfl))
   refine c_skip ?_
   refine s_seqs ?_
   repeat first
    | refine s_seq ?_
    | refine step_pure rfl (pure_load_agg (i := 4) rfl rfl rfl rfl rfl (by simp only [row_len, hkl]; decide) (ints_whole _ _ 16 hkl)) ?_
    | refine step_pure rfl (pure_load_agg (i := 3) rfl rfl rfl rfl rfl (by simp only [row_len, hAl]; decide) (ints_whole _ _ 8 hAl)) ?_
    | refine qm rfl rfl ?_
    | refine c_region ?_
   refine step_makes rfl fun70 rfl (fun w _ _ => stream21 key A c w) ?_
   rintro v m' ⟨pK, pF, pA, rfl, rfl⟩
   refine step_nil ?_
   refine s_block ?_
   refine s_less (rs' := [(7, .pointer (some ⟨bSl, 0, none⟩)), (10, .pointer (some ⟨bOut, 0, none⟩)), (24, .func (.func 85) #[] #[.pointer (some ⟨pK, 0, none⟩), .pointer (some ⟨pF, 0, none⟩), .pointer (some ⟨pA, 0, none⟩)])])
    (m' := [⟨pF, [.int .i64 c], 3⟩, ⟨pA, row A, 68⟩, ⟨pK, row key, 28⟩, ⟨bOut, [.slice (some ⟨bArr, 0, none⟩) 0 bs.length], 22⟩, ⟨bArr, row (zeros bs.length), 5⟩, ⟨bSl, [.slice (some p) bs.length cap], 22⟩])
    (less_sub ⟨rfl, rfl, rfl, trivial⟩ (by repeat (first | exact List.nil_sublist _ | apply List.Sublist.cons_cons | apply List.Sublist.cons))) ?_
   refine ⟨fun a w1 ok => ?_⟩
   have hrow : ∀ l : List Int, 0 < l.length → row l ≠ [] := fun l hl h => by
    have := row_len l
    rw [h] at this
    simp at this
    omega
   have hpos : 0 < bs.length := by omega
   have nA := hrow A (by omega)
   have nK := hrow key (by omega)
   have nZ := hrow (zeros bs.length) (by rw [zeros_len]; exact hpos)
   have hpF := ok.has.1 (by simp)
   have hpA := ok.has.2.2.1 nA
   have hpK := ok.has.2.2.2.2.1 nK
   have hbO := ok.has.2.2.2.2.2.2.1 (by simp)
   have hbR := ok.has.2.2.2.2.2.2.2.2.1 nZ
   have hbS := ok.has.2.2.2.2.2.2.2.2.2.2.1 (by simp)
   have aA := ok.has.2.2.2.1 nA
   have aO := ok.has.2.2.2.2.2.2.2.1 (by simp)
   have aR := ok.has.2.2.2.2.2.2.2.2.2.1 nZ
   have hAO : pA ≠ bOut := aA.2.1 (by simp)
   have hAR : pA ≠ bArr := aA.2.2.1 nZ
   have hOR : bOut ≠ bArr := aO.1 nZ
   have hOS : bOut ≠ bSl := aO.2.1 (by simp)
   have hRS : bArr ≠ bSl := aR.1 (by simp)
   have oO : w.heap.size ≤ bOut := (ok.own.2.2.2.1 (by simp)).elim id (fun h => by cases h)
   have oR : w.heap.size ≤ bArr := (ok.own.2.2.2.2.1 nZ).elim id (fun h => by cases h)
   have hsrcB : ∀ j x, (row bs)[j]? = some x → (p.add j).block ∉ [bOut, bArr] := fun j x hx hm => by
    have h1 := World.block_lt_of_cell? _ _ (hcells j x hx)
    simp at hm
    omega
   have hSws : bSl ∉ [bOut, bArr] := by simp [hOS.symm, hRS.symm]
   have hF0 : Fo key A bs c p cap bOut bArr bSl 0 w1 := ⟨hbO, by simpa [outL] using hbR, hbS, fun j x hx => ok.keep.kc.cell (by simp) (hcells j x hx)⟩
   refine range_fn (P := tb.P) (ws := [bOut, bArr]) (ev_ok ok.regs rfl) fun85 (stream_iter key A c pK pF pA w1 [bOut, bArr] hkl hkb hAl hAb hpK (cell_of hpF rfl) hpA (by simp [hAO, hAR]) ?_)
    (fun k => rfl) ?_ bs.length (fun k W => k < bs.length ∧ Fo key A bs c p cap bOut bArr bSl k W) (fun cd k W => cd = .exit 0 ∧ k = bs.length ∧ Fo key A bs c p cap bOut bArr bSl k W)
    (fun k W h => Nat.le_of_lt h.1) (fun k A C h kc => ⟨h.1, h.2.kc kc⟩) (fun cd k A C h kc => ⟨h.1, h.2.1, h.2.2.kc kc⟩) ⟨hpos, hF0⟩ ?round (fun D k W _ _ _ hfin => hfin.elim) ?stop
   ·intro x hx
    simp at hx
    rcases hx with rfl | rfl
    ·exact lt_of_heap hbO
    ·exact lt_of_heap hbR
   ·intro x hx
    simp at hx
    rcases hx with rfl | rfl
    ·exact lt_of_heap hbO
    ·exact lt_of_heap hbR
   case round =>
    rintro l k W ⟨hlt, hf⟩ _
    have ht : ((#[25] : Array Tmp).zip (strE key A (IntKind.u64.wrap c) k)).foldl (fun t (p, v) => t.setIfInBounds p v) a.tmps = (a.put (some 25) (.int .u8 (strAt key A (IntKind.u64.wrap c) k))).tmps := by
     simp [strE, Act.put]
    have okA : ∀ T, T = (a.put (some 25) (.int .u8 (strAt key A (IntKind.u64.wrap c) k))).tmps →
      Ok ⟨W, [], []⟩ 42 [(25, .int .u8 (strAt key A (IntKind.u64.wrap c) k)), (7, .pointer (some ⟨bSl, 0, none⟩)), (10, .pointer (some ⟨bOut, 0, none⟩))] [] { tmps := T, defers := [] } W := by
     rintro T rfl
     exact ⟨(put_size ..).trans ok.size, rfl, fun t v hv => put_regs (d := some 25) ok.size rfl ok.regs t v
      (look_all (rs' := [(25, .int .u8 (strAt key A (IntKind.u64.wrap c) k)), (7, .pointer (some ⟨bSl, 0, none⟩)), (10, .pointer (some ⟨bOut, 0, none⟩))]) ⟨rfl, rfl, rfl, trivial⟩ t v hv), trivial, trivial, Keep.refl _ _⟩
    refine WPs.run (B := tb.inRound l) ?_ _ W (okA _ ht)
    refine s_wp ?_
    repeat first
     | refine qa rfl rfl ?_
     | refine step_nil ?_
     | refine c_region ?_
    intro a1 W1 ok1
    refine ⟨ok1.keep, fun W2 hk12 hI2 => ?_⟩
    have hf2 := hI2.2
    have hOl := outL_len key A bs c k (Nat.le_of_lt hlt)
    have nO := hrow (outL key A bs c k) (by omega)
    have okB : Ok ⟨W2, [bOut, bArr], []⟩ 42 [(11, .int .u8 (strAt key A (IntKind.u64.wrap c) k)), (7, .pointer (some ⟨bSl, 0, none⟩)), (10, .pointer (some ⟨bOut, 0, none⟩))]
      [⟨bOut, [.slice (some ⟨bArr, 0, none⟩) k bs.length], 22⟩, ⟨bArr, row (outL key A bs c k), 5⟩] a1 W2 :=
     ⟨ok1.size, ok1.defers, fun t v hv => ok1.regs t v (look_all (rs := _) (rs' := [(11, .int .u8 (strAt key A (IntKind.u64.wrap c) k)), (7, .pointer (some ⟨bSl, 0, none⟩)), (10, .pointer (some ⟨bOut, 0, none⟩))]) ⟨rfl, rfl, rfl, trivial⟩ t v hv),
      ⟨fun _ => hf2.out, fun _ => ⟨fun _ => hOR, trivial⟩, fun _ => hf2.arr, fun _ => trivial, trivial⟩, ⟨fun _ => .inr (by simp), fun _ => .inr (by simp), trivial⟩, Keep.refl _ _⟩
    refine WPs.run (B := tb.inRound l) ?_ a1 W2 okB
    clear okA okB ok1 ht
    have hSl2 := cell_of hf2.sl (off := 0) rfl
    have hget := row_get bs k hlt
    have hBk := hf2.src k _ hget
    have hBb := hsrcB k _ hget
    refine s_block (s_seq ?_)
    refine d_region p13 follows (by kernel_rfl) ?_
    refine d_pure1 rfl rfl rfl (pure_load (i := 0) rfl rfl rfl rfl rfl rfl) (SubMem.refl _) ?_
    refine d_pure0 rfl rfl rfl (pure_view rfl rfl rfl hSl2 hSws) ?_
    refine d_pure1 rfl rfl rfl (pure_load (i := 0) rfl rfl rfl rfl rfl rfl) (SubMem.refl _) ?_
    refine d_pure0 rfl rfl rfl (pure_len_slice rfl rfl rfl) ?_
    refine d_as0 rfl rfl rfl (pure_indexAddr_at rfl rfl rfl rfl rfl (by omega) (by omega)) (show _ = Value.pointer (some (p.add k)) from by rw [Int.toNat_natCast]; exact congrArg (fun j => Value.pointer (some (p.add j))) (Nat.mul_one k)) ?_
    refine d_pure0 rfl rfl rfl (pure_view_at rfl rfl rfl hBk hBb) ?_
    refine qd rfl rfl rfl rfl ?_
    refine d_as0 rfl rfl rfl (pure_xor rfl rfl) (show _ = Value.int .u8 (outAt key A bs c k) from rfl) ?_
    have hfill : fillL (fun i => some (i * u8T.size, u8T.size)) (rowOf [.int .u8 0] (1 * u8T.size)) [(0, Value.int .u8 (outAt key A bs c k))] = some [Value.int .u8 (outAt key A bs c k)] := by
     rw [show 1 * u8T.size = 1 from rfl, rowOf_u8]; rfl
    refine d_buildSlice rfl rfl rfl rfl rfl rfl elemU8 (by decide) (by decide) hfill (SubMem.refl _) rfl (fun bt => ?_)
    have hsp : splice (row (outL key A bs c k)) (k * u8T.size) [Value.int .u8 (outAt key A bs c k)] = row (outL key A bs c (k + 1)) := by
     rw [show k * u8T.size = k from Nat.mul_one k, ← outL_succ key A bs c k hlt]; exact ints_splice .u8 (outL key A bs c k) [outAt key A bs c k] k
    refine d_only rfl rfl rfl rfl (eff_append_room (i := 2) (k := 1) rfl rfl rfl rfl rfl rfl elemU8 rfl rfl nO rfl rfl (by omega) (by rw [row_len, hOl, show (k + 1) * u8T.size = k + 1 from Nat.mul_one _]; omega)
     (src_own (j := 0) (sl_built u8T 5 bt [Value.int .u8 (outAt key A bs c k)] 1 rfl) rfl) (by intro v hv; simp at hv; subst hv; rfl) hsp) ?_ rfl
    rintro v m' ⟨rfl, rfl⟩
    refine ⟨fun h => (by cases h), ?_⟩
    refine d_store 1 rfl rfl rfl rfl rfl rfl rfl rfl rfl rfl (by show 0 < 1; decide) rfl rfl rfl ?_
    refine d_nil ?_
    have nO2 := hrow (outL key A bs c (k + 1)) (by rw [outL_len key A bs c (k + 1) hlt]; exact hpos)
    repeat first
     | refine s_seq ?_
     | refine step_pure rfl (pure_load (i := 1) rfl rfl rfl rfl rfl rfl) ?_
     | refine step_pure rfl (pure_len_slice rfl rfl rfl) ?_
     | refine step_pure rfl (pure_view rfl rfl rfl hSl2 hSws) ?_
     | refine step_pure rfl (pure_eql rfl rfl) ?_
     | refine step_nil ?_
     | refine c_region ?_
    have fin : ∀ a3 W3 rs3, Ok ⟨W2, [bOut, bArr], []⟩ 42 rs3 [⟨bt, [Value.int .u8 (outAt key A bs c k)], 5⟩, ⟨bOut, [.slice (some ⟨bArr, 0, none⟩) (k + 1) bs.length], 22⟩, ⟨bArr, row (outL key A bs c (k + 1)), 5⟩] a3 W3 →
      Keep W2 W3 [bOut, bArr] ∧ Fo key A bs c p cap bOut bArr bSl (k + 1) W3 := fun a3 W3 rs3 ok3 =>
     ⟨ok3.keep, ok3.has.2.2.1 (by simp), ok3.has.2.2.2.2.1 nO2, (ok3.keep.block _ (lt_of_heap hf2.sl) hSws).trans hf2.sl, fun j x hx => ok3.keep.kc.cell (hsrcB j x hx) (hf2.src j x hx)⟩
    refine s_wp (c_cond rfl (fun h => c_exit ?_) (fun h => c_skip ?_))
    ·intro a3 W3 ok3
     have hk := eq_of_beq h
     obtain ⟨g1, g2⟩ := fin _ _ _ ok3
     exact exit_on (by decide) ⟨g1, rfl, by omega, g2⟩
    ·intro a3 W3 ok3
     have hk : ((k + 1 : Nat) : Int) ≠ (bs.length : Nat) := fun e => by rw [e] at h; simp at h
     obtain ⟨g1, g2⟩ := fin _ _ _ ok3
     exact ⟨g1, by omega, g2⟩
   case stop =>
    rintro D cd k W hD hdef hkeep ⟨rfl, rfl, hf⟩
    refine wpIn_exit (exit_here ?_)
    have hkeep0 : Keep w W [] := ok.keep.trans hkeep (fun x hx hlt => by
     have hlt' : x < w.heap.size := hlt
     simp at hx
     omega)
    have okE : Ok ⟨W, [], [{ target := .collected D, args := #[] }]⟩ 42 [(10, .pointer (some ⟨bOut, 0, none⟩))] [] { a with defers := { target := .collected D, args := #[] } :: a.defers } W :=
     ⟨ok.size, by show _ :: a.defers = _; rw [ok.defers], fun t v hv => ok.regs t v (look_all (rs' := [(10, .pointer (some ⟨bOut, 0, none⟩))]) ⟨rfl, trivial⟩ t v hv), trivial, trivial, Keep.refl _ _⟩
    refine WPs.run (B := tb) ?_ _ W okE
    have hO2 := cell_of hf.out (off := 0) rfl
    repeat first
     | refine s_seq ?_
     | refine step_pure rfl (pure_view rfl rfl rfl hO2 (by simp)) ?_
     | refine qa rfl rfl ?_
     | refine step_nil ?_
     | refine c_region ?_
    refine s_wp (c_ret ?_)
    intro a3 W3 ok3
    have hDr : bArr ≠ D := fun e => by
     have h1 := hf.arr
     rw [e, hdef] at h1
     cases h1
    have hd3 := (ok3.keep.block D (lt_of_heap hdef) (by simp)).trans hdef
    have hL : outL key A bs c bs.length = outF key A bs c := by simp [outL, outF, zeros]
    refine ends_mark (.inr rfl) ok3 rfl hd3 (res_tmp2 Try.results50 rfl rfl) ⟨_, [⟨bArr, row (outL key A bs c bs.length), 5⟩], rfl, ⟨_, _, _, _, rfl, rfl, ?_⟩, ?_, ?_, ?_⟩
    ·rw [hL]
     exact ⟨by rw [← hL, row_len, outL_len key A bs c _ (Nat.le_refl _)]; exact (Nat.mul_one _).symm, Nat.le_refl _, fun _ => ⟨rfl, rfl⟩, by
      exact List.take_of_length_le (by rw [← hL, row_len, outL_len key A bs c _ (Nat.le_refl _)]; exact Nat.le_of_eq (Nat.mul_one _).symm)⟩
    ·refine ⟨fun _ => ?_, fun _ => trivial, trivial⟩
     exact (World.putObj_heap_other hDr).trans ((ok3.keep.block _ (lt_of_heap hf.arr) (by simp)).trans hf.arr)
    ·exact ⟨fun _ => .inl oR, trivial⟩
    ·exact (hkeep0.trans ok3.keep (by simp)).put (by have h1 : w.heap.size ≤ w1.heap.size := ok.keep.size; show w.heap.size ≤ D; omega) _
end Go.Proofs.Ythieegnhjoehbaa
/- The reference's Stream, walked. -/
namespace Go.Proofs.Ythieegnhjoehbaa
open Go.RowKit Go.Vc
set_option linter.unusedVariables false
set_option maxRecDepth 100000
/-- The reference's block to encipher, the first i of eight steps done. -/
def rxL (A : List Int) (n : Int) : Nat → List Int
 | 0 => zeros 16
 | i + 1 => ((rxL A n i).set i (A.getD i 0)).set (8 + i) (IntKind.u8.wrap (n / 2 ^ min (IntKind.u64.wrap (56 - 8 * (i : Int))).toNat IntKind.u64.bits))
theorem rxL_len (A : List Int) (n : Int) (i : Nat) : (rxL A n i).length = 16 := by
 induction i with
 | zero => exact zeros_len 16
 | succ i ih => exact (List.length_set ..).trans ((List.length_set ..).trans ih)
def rstrB (key A : List Int) (c0 : Int) (q : Nat) : List Int := rblkF (rkF key) (rxL A (ctr c0 q) 8)
def routAt (key A bs : List Int) (c : Int) (i : Nat) : Int := bits .xor .u8 (bs.getD i 0) ((rstrB key A (IntKind.u64.wrap c) (i / 16)).getD (i % 16) 0)
def routF (key A bs : List Int) (c : Int) : List Int := (List.range bs.length).map (routAt key A bs c)
structure Rx where
 i : Nat
 base : Option Addr
 cap : Nat
 e : Ent
 Z : List Int
def p14 : List Nat := [1, 9, 17, 25, 33, 41, 49, 57, 67, 73, 85, 92, 97]
set_option maxHeartbeats 2000000 in
theorem stream14 (key A bs : List Int) (c : Int) (v3 : Value) (w : World) (hkl : key.length = 16) (hkb : Bytes key) (hAl : A.length = 8) (hAb : Bytes A)
  (hv : SlV w v3 (row bs)) (hbig : bs.length ≤ 140737488355328) :
  Makes tb 32 [.agg (row key).toArray, .agg (row A).toArray, .int .i64 c, v3] w fun v m' => ∃ base len cap e,
   v = .tuple #[.slice base len cap, .int .i64 (if c < 0 then 1 else 0)] ∧ m' = [e] ∧ SlIs u8T 5 e base len cap (row (if c < 0 then [] else routF key A bs c)) := by
 obtain ⟨base0, cap0, rfl, hbase⟩ := hv.is
 rw [row_len]
 refine makes_of (fn := Try.f32) Try.func32 rfl Try.ntmps32 rfl ?_
 have hRl : ∀ q, (rstrB key A (IntKind.u64.wrap c) q).length = 16 := fun q => rblkF_len _ _ (rxL_len A _ 8)
 have hR : ∀ q w, Gives tb 53 [.agg (row key).toArray, .agg (row (rxL A (ctr (IntKind.u64.wrap c) q) 8)).toArray] w (.agg (row (rstrB key A (IntKind.u64.wrap c) q)).toArray) :=
  fun q w => rblock_any key _ w hkl (rxL_len A _ 8)
 have hro : ∀ i, routAt key A bs c i = bits .xor .u8 (bs.getD i 0) ((rstrB key A (IntKind.u64.wrap c) (i / 16)).getD (i % 16) 0) := fun _ => rfl
 have hrF : routF key A bs c = (List.range bs.length).map (routAt key A bs c) := rfl
 rw [hrF]
 generalize rstrB key A (IntKind.u64.wrap c) = RB at hRl hR hro
 generalize routAt key A bs c = ro at hro ⊢
 refine c_seq (c_region (step_box_agg rfl rfl (fun bK => step_box_agg rfl rfl (fun bA => ?_))))
 repeat first
  | refine qm rfl rfl ?_
  | refine step_pure rfl (pure_lss rfl rfl) ?_
  | refine qa rfl rfl ?_
  | refine step_nil ?_
  | refine c_seq ?_
  | refine c_region ?_
 refine c_cond rfl (fun h => ?_) (fun h => ?_)
 ·have hc : c < 0 := of_decide_eq_true h
  refine c_seq (c_region (step_hole ?_))
  repeat first
   | refine qa rfl rfl ?_
   | refine step_nil ?_
  refine c_ret ⟨_, res_tmp2 Try.results32 rfl rfl, [hole], ?_, none, 0, 0, hole, ?_, rfl, ?_⟩
  ·exact List.Sublist.cons_cons _ (List.nil_sublist _)
  ·rw [if_pos hc]
  ·rw [if_pos hc]; exact sl_nil _ _ (by decide)
 ·have hc : ¬ c < 0 := of_decide_eq_false h
  clear h
  rw [if_neg hc, if_neg hc]
  refine c_skip ?_
  repeat first
   | refine step_as rfl (pure_build_arr rfl zero28 rfl rfl rfl rfl) (show _ = Value.agg (row (zeros 16)).toArray from rfl) ?_
   | refine step_alloc rfl zero28 (fun bB => ?_)
   | refine step_store_agg 0 rfl rfl rfl (row_one _) rfl rfl rfl rfl (by simp only [row_len, zeros_len]; decide) (splice_all rfl) (step_hole ?_)
   | refine qm rfl rfl ?_
   | refine step_pure rfl (pure_conv rfl rfl rfl rfl) ?_
   | refine qa rfl rfl ?_
   | refine step_nil ?_
   | refine c_seq ?_
   | refine c_region ?_
   | refine c_block ?_
  obtain ⟨c0, hcc⟩ : ∃ c0, c0 = IntKind.u64.wrap c := ⟨_, rfl⟩
  rw [← hcc] at hR ⊢
  refine c_loop (α := Rx) (fun x => [(3, .slice base0 bs.length cap0), (4, .pointer (some ⟨bK, 0, none⟩)), (5, .pointer (some ⟨bA, 0, none⟩)), (10, .slice x.base x.i x.cap), (11, .int .u64 (ctr c0 ((x.i + 15) / 16))), (12, .pointer (some ⟨bB, 0, none⟩)), (13, .int .i64 x.i)])
   (fun x => [x.e, ⟨bB, row x.Z, 28⟩, ⟨bA, row A, 68⟩, ⟨bK, row key, 28⟩])
   (fun x => x.i ≤ bs.length ∧ SlIs u8T 5 x.e x.base x.i x.cap (row ((List.range x.i).map ro)) ∧ x.Z.length = 16 ∧ (x.i % 16 ≠ 0 → x.Z = RB (x.i / 16)))
   (fun x => bs.length - x.i) ⟨0, none, 0, hole, zeros 16⟩ ⟨Nat.zero_le _, sl_nil _ _ (by decide), zeros_len 16, fun h => absurd rfl h⟩ (less_of ⟨rfl, rfl, rfl, rfl, rfl, rfl, rfl, trivial⟩ rfl) ?_
  rintro ⟨i, base, cap, e, Z⟩ ⟨hi, hs, hZ, hZq⟩
  dsimp only at hi hs hZ hZq ⊢
  repeat first
   | refine step_pure rfl (pure_len_slice rfl rfl rfl) ?_
   | refine qm rfl rfl ?_
   | refine step_pure rfl (pure_lss rfl rfl) ?_
   | refine step_nil ?_
   | refine c_seq ?_
   | refine c_region ?_
  refine c_cond rfl (fun h => ?_) (fun h => ?_)
  ·have hlt : i < bs.length := by have := of_decide_eq_true h; omega
   clear h
   obtain ⟨p, rfl, hcells⟩ := hbase (by
    intro h
    have := row_len bs
    rw [h] at this
    simp at this
    omega)
   refine c_skip ?_
   repeat first
    | refine qm rfl rfl ?_
    | refine step_pure rfl (pure_rem_pos rfl rfl (by omega) (by decide)) ?_
    | refine step_pure rfl (pure_eql rfl rfl) ?_
    | refine step_nil ?_
    | refine c_seq ?_
    | refine c_region ?_
    | refine c_block ?_
   refine c_meet [(3, .slice (some p) bs.length cap0), (4, .pointer (some ⟨bK, 0, none⟩)), (5, .pointer (some ⟨bA, 0, none⟩)), (10, .slice base i cap), (11, .int .u64 (ctr c0 (i / 16 + 1))), (12, .pointer (some ⟨bB, 0, none⟩)), (13, .int .i64 i)]
    [e, ⟨bB, row (RB (i / 16)), 28⟩, ⟨bA, row A, 68⟩, ⟨bK, row key, 28⟩] ?_ ?_
   ·refine c_cond rfl (fun h => ?_) (fun h => ?_)
    ·have hm : i % 16 = 0 := by have := eq_of_beq h; omega
     have e1 : (i + 15) / 16 = i / 16 := by omega
     rw [e1]
     clear h hZq
     generalize i / 16 = q
     repeat first
      | refine step_as rfl (pure_build_arr rfl zero28 rfl rfl rfl rfl) (show _ = Value.agg (row (zeros 16)).toArray from rfl) ?_
      | refine step_alloc rfl zero28 (fun bX => ?_)
      | refine step_store_agg 0 rfl rfl rfl (row_one _) rfl rfl rfl rfl (by simp only [row_len, zeros_len]; decide) (splice_all rfl) ?_
      | refine qa rfl rfl ?_
      | refine step_nil ?_
      | refine c_seq ?_
      | refine c_region ?_
      | refine c_block ?_
     refine c_loop (α := Nat) (fun k => [(3, .slice (some p) bs.length cap0), (4, .pointer (some ⟨bK, 0, none⟩)), (5, .pointer (some ⟨bA, 0, none⟩)), (10, .slice base i cap), (11, .int .u64 (ctr c0 q)), (12, .pointer (some ⟨bB, 0, none⟩)), (13, .int .i64 i), (14, .pointer (some ⟨bX, 0, none⟩)), (15, .int .i64 k)])
      (fun k => [⟨bX, row (rxL A (ctr c0 q) k), 28⟩, e, ⟨bB, row Z, 28⟩, ⟨bA, row A, 68⟩, ⟨bK, row key, 28⟩]) (fun k => k ≤ 8) (fun k => 8 - k) 0 (by decide) (less_of ⟨rfl, rfl, rfl, rfl, rfl, rfl, rfl, rfl, rfl, trivial⟩ rfl) ?_
     intro k hk
     have hxl := rxL_len A (ctr c0 q) k
     repeat first
      | refine qm rfl rfl ?_
      | refine step_pure rfl (pure_lss rfl rfl) ?_
      | refine step_nil ?_
      | refine c_seq ?_
      | refine c_region ?_
     refine c_cond rfl (fun h => ?_) (fun h => ?_)
     ·have hk8 : k < 8 := by have := of_decide_eq_true h; omega
      clear h
      refine c_skip ?_
      repeat first
       | refine step_pure rfl (pure_ix (off' := k) rfl rfl rfl rfl rfl (by omega) (by omega) (by show 0 + (k : Int).toNat * 1 = _; omega)) ?_
       | refine step_pure rfl (pure_ix (off' := 8 + k) rfl rfl rfl rfl rfl (by omega) (by omega) (by show 0 + (8 + (k : Int)).toNat * 1 = _; omega)) ?_
       | refine step_pure rfl (pure_load (i := 3) rfl rfl rfl rfl rfl (row_get _ _ (by omega))) ?_
       | refine step_pure rfl (pure_shr rfl rfl (u64_nat _)) ?_
       | refine step_store 0 rfl rfl rfl rfl rfl rfl rfl rfl (by simp only [ints_len, List.length_set, hxl] <;> omega) (row_set _ _ _) ?_
       | refine qm rfl rfl ?_
       | refine step_pure rfl (pure_add64 rfl rfl (by omega) (by omega)) ?_
       | refine step_pure rfl (pure_sub64 rfl rfl (by omega) (by omega)) ?_
       | refine step_pure rfl (pure_mul64 rfl rfl (by omega) (by omega)) ?_
       | refine step_pure rfl (pure_conv rfl rfl rfl rfl) ?_
       | refine qa rfl rfl ?_
       | refine step_nil ?_
       | refine c_seq ?_
       | refine c_region ?_
       | refine c_block ?_
      exact ⟨k + 1, hk8, by omega, less_of ⟨rfl, rfl, rfl, rfl, rfl, rfl, rfl, rfl, rfl, trivial⟩ rfl⟩
     ·have hk8 : k = 8 := by have := of_decide_eq_false h; omega
      clear h
      have hR' : ∀ w, Gives tb 53 [.agg (row key).toArray, .agg (row (rxL A (ctr c0 q) k)).toArray] w (.agg (row (RB q)).toArray) := by rw [hk8]; exact hR q
      have hRq := hRl q
      clear hR hRl hk8 hk
      generalize rxL A (ctr c0 q) k = x at hxl hR' ⊢
      refine c_exit ?_
      repeat first
       | refine step_pure rfl (pure_load_agg (i := 4) rfl rfl rfl rfl rfl (by simp only [row_len, hkl]; decide) (ints_whole _ _ 16 hkl)) ?_
       | refine step_pure rfl (pure_load_agg (i := 0) rfl rfl rfl rfl rfl (by simp only [row_len, hxl]; decide) (ints_whole _ _ 16 hxl)) ?_
       | refine step_gives rfl fun53 rfl (fun w _ _ => hR' w) ?_
       | refine step_store_agg 2 rfl rfl rfl (row_one _) rfl (by rw [row_len]; exact hRq) rfl rfl (by simp only [row_len, hZ]; decide) (splice_all (by rw [row_len, row_len, hRq, hZ])) ?_
       | refine step_pure rfl (pure_add rfl rfl) ?_
       | refine qm rfl rfl ?_
       | refine qa rfl rfl ?_
       | refine step_nil ?_
       | refine c_seq ?_
       | refine c_region ?_
      exact less_sub ⟨rfl, rfl, rfl, rfl, rfl, rfl, rfl, trivial⟩ (List.Sublist.cons _ (List.Sublist.refl _))
    ·have hm : i % 16 ≠ 0 := by
      intro h0
      rw [show ((i : Int) % 16) = 0 by omega] at h
      exact absurd h (by decide)
     have e2 : (i + 15) / 16 = i / 16 + 1 := by omega
     rw [e2, hZq hm]
     exact c_skip (less_of ⟨rfl, rfl, rfl, rfl, rfl, rfl, rfl, trivial⟩ rfl)
   have hget := row_get bs i hlt
   have hBk := hcells i _ hget
   have hq := hRl (i / 16)
   have hroi := hro i
   refine d_region p14 follows (by kernel_rfl) ?_
   refine qd rfl rfl rfl rfl ?_
   refine qd rfl rfl rfl rfl ?_
   refine qd rfl rfl rfl rfl ?_
   refine d_as0 rfl rfl rfl (pure_indexAddr_at rfl rfl rfl rfl rfl (by omega) (by omega)) (show _ = Value.pointer (some (p.add i)) from by rw [Int.toNat_natCast]; exact congrArg (fun j => Value.pointer (some (p.add j))) (Nat.mul_one i)) ?_
   refine d_pure0 rfl rfl rfl (pure_view_at rfl rfl rfl hBk (by simp)) ?_
   refine qd rfl rfl rfl rfl ?_
   refine d_pure0 rfl rfl rfl (pure_rem_pos rfl rfl (by omega) (by decide)) ?_
   refine d_pure0 rfl rfl rfl (pure_ix (off' := i % 16) rfl rfl rfl rfl rfl (by omega) (by omega) (by show 0 + ((i : Int) % 16).toNat * 1 = _; omega)) ?_
   refine d_pure1 rfl rfl rfl (pure_load (i := 1) rfl rfl rfl rfl rfl (row_get _ _ (by omega))) (SubMem.refl _) ?_
   refine d_as0 rfl rfl rfl (pure_xor rfl rfl) (show _ = Value.int .u8 (ro i) from by rw [hroi]) ?_
   have hfill : fillL (fun i => some (i * u8T.size, u8T.size)) (rowOf [.int .u8 0] (1 * u8T.size)) [(0, Value.int .u8 (ro i))] = some [Value.int .u8 (ro i)] := by
    rw [show 1 * u8T.size = 1 from rfl, rowOf_u8]; rfl
   refine d_buildSlice rfl rfl rfl rfl rfl rfl elemU8 (by decide) (by decide) hfill (SubMem.refl _) rfl (fun bt => ?_)
   refine d_append 1 rfl rfl rfl rfl rfl hs rfl rfl rfl rfl rfl elemU8 rfl (by decide) rfl rfl rfl
    (src_own (j := 0) (sl_built u8T 5 bt [Value.int .u8 (ro i)] 1 rfl) rfl) (by intro v hv; simp at hv; subst hv; rfl) (by omega) (by omega) rfl (fun base' cap' e' hs' => ?_)
   refine d_pure0 rfl rfl rfl (pure_assign rfl) ?_
   refine d_nil ?_
   have hs2 : SlIs u8T 5 e' base' (i + 1) cap' (row ((List.range (i + 1)).map ro)) := by
    have : row ((List.range (i + 1)).map ro) = row ((List.range i).map ro) ++ [Value.int .u8 (ro i)] := by simp [ints, List.range_succ]
    rw [this]; exact hs'
   repeat first
    | refine qm rfl rfl ?_
    | refine step_pure rfl (pure_add64 rfl rfl (by omega) (by omega)) ?_
    | refine qa rfl rfl ?_
    | refine step_nil ?_
    | refine c_region ?_
   refine ⟨⟨i + 1, base', cap', e', RB (i / 16)⟩, ⟨hlt, hs2, hq, fun h => ?_⟩, by show bs.length - (i + 1) < bs.length - i; omega, ?_⟩
   ·show RB (i / 16) = RB ((i + 1) / 16)
    have h' : (i + 1) % 16 ≠ 0 := h
    rw [show (i + 1) / 16 = i / 16 by omega]
   ·dsimp only
    rw [show (i + 1 + 15) / 16 = i / 16 + 1 by omega]
    exact less_sub ⟨rfl, rfl, rfl, rfl, rfl, rfl, rfl, trivial⟩ (List.Sublist.cons _ (List.Sublist.refl _))
  ·have hil : i = bs.length := by have := of_decide_eq_false h; omega
   clear h
   refine c_exit ?_
   repeat first
    | refine qm rfl rfl ?_
    | refine qa rfl rfl ?_
    | refine step_nil ?_
    | refine c_seq ?_
    | refine c_region ?_
   subst hil
   exact c_ret ⟨_, res_tmp2 Try.results32 rfl rfl, [e], List.Sublist.cons_cons _ (List.nil_sublist _), _, _, _, e, rfl, rfl, hs⟩
end Go.Proofs.Ythieegnhjoehbaa
