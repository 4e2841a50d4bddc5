/- A sequence's numbers, looks: walked. -/
import Derived.Test.YtadginombcjbeaaTD
namespace Go.Proofs.Ytadginombcjbeaa
open Go.RowKit Go.Vc
set_option linter.unusedVariables false
theorem ac_get {a : Ac} {k : Nat} (h : k < a.ps.length) : (acC a)[4 + k]? = some (.int .i64 (a.ps.getD k 0)) := by
 rw [Nat.add_comm]
 exact ints_get h
set_option maxHeartbeats 1000000 in
theorem param_any (a : Ac) (i z : Int) (w : World) (h : Ac8 a) : Gives tb 78 [.agg (acC a).toArray, .int .i64 i, .int .i64 z] w (.int .i64 (tmParam a i z)) := by
 refine gives_of (fn := Try.f78) Try.func78 rfl Try.ntmps78 rfl ?_
 have h8 : a.ps.length = 8 := h
 unfold tmParam
 repeat refine c_seq ?_
 refine c_region ?_
 refine step_box_agg rfl rfl (fun b3 => ?_)
 refine qa rfl rfl ?_
 refine step_nil ?_
 repeat refine c_seq ?_
 refine c_meet [(1, .int .i64 i), (2, .int .i64 z), (3, .pointer (some ⟨b3, 0, none⟩)), (19, .bool (decide (i < 0 ∨ 8 ≤ i ∨ a.ps.getD i.toNat 0 ≤ 0)))] [⟨b3, acC a, tA⟩] ?_ ?_
 ·repeat refine c_seq ?_
  refine c_region ?_
  refine qm rfl rfl ?_
  refine step_pure rfl (pure_lss rfl rfl) ?_
  refine qm rfl rfl ?_
  refine step_split (t := 9) rfl (fun h9 => ?_) (fun h9 => ?_)
  ·refine qp rfl rfl rfl ?_
   refine qp rfl rfl rfl ?_
   refine step_pure rfl (pure_pick_yes rfl rfl) ?_
   refine qm rfl rfl ?_
   refine qp rfl rfl rfl ?_
   refine qp rfl rfl rfl ?_
   refine qp rfl rfl rfl ?_
   refine qp rfl rfl rfl ?_
   refine qp rfl rfl rfl ?_
   refine step_pure rfl (pure_pick_yes rfl rfl) ?_
   refine step_nil ?_
   refine less_of ⟨rfl, rfl, rfl, ?_, trivial⟩ rfl
   refine congrArg some (congrArg Value.bool ?_)
   clear h h8
   generalize a.ps.getD i.toNat 0 = q at *
   simp_all
   all_goals try first | omega | rfl | (rw [Bool.eq_iff_iff]; simp; done) | (rw [Bool.eq_iff_iff]; simp; omega)
  ·refine qm rfl rfl ?_
   refine step_pure rfl (pure_geq rfl rfl) ?_
   refine step_pure rfl (pure_pick_no rfl rfl) ?_
   refine qm rfl rfl ?_
   refine step_split (t := 13) rfl (fun h13 => ?_) (fun h13 => ?_)
   ·refine qp rfl rfl rfl ?_
    refine qp rfl rfl rfl ?_
    refine qp rfl rfl rfl ?_
    refine qp rfl rfl rfl ?_
    refine qp rfl rfl rfl ?_
    refine step_pure rfl (pure_pick_yes rfl rfl) ?_
    refine step_nil ?_
    refine less_of ⟨rfl, rfl, rfl, ?_, trivial⟩ rfl
    refine congrArg some (congrArg Value.bool ?_)
    clear h h8
    generalize a.ps.getD i.toNat 0 = q at *
    simp_all
    all_goals try first | omega | rfl | (rw [Bool.eq_iff_iff]; simp; done) | (rw [Bool.eq_iff_iff]; simp; omega)
   ·refine qm rfl rfl ?_
    refine step_pure rfl (pure_fieldAddr rfl rfl rfl rfl rfl (by decide)) ?_
    refine step_pure rfl (pure_ix (off' := 4 + i.toNat) rfl rfl rfl rfl rfl (by have := of_decide_eq_false h9; omega) (by have := of_decide_eq_false h13; omega) (by show 0 + 4 + i.toNat * 1 = _; omega)) ?_
    refine step_pure rfl (pure_load (i := 0) rfl rfl rfl rfl rfl (ac_get (by have := of_decide_eq_false h13; rw [h8]; omega))) ?_
    refine step_pure rfl (pure_leq rfl rfl) ?_
    refine step_pure rfl (pure_pick_no rfl rfl) ?_
    refine step_nil ?_
    refine less_of ⟨rfl, rfl, rfl, ?_, trivial⟩ rfl
    refine congrArg some (congrArg Value.bool ?_)
    clear h h8
    generalize a.ps.getD i.toNat 0 = q at *
    simp_all
    all_goals try first | omega | rfl | (rw [Bool.eq_iff_iff]; simp; done) | (rw [Bool.eq_iff_iff]; simp; omega)
 repeat refine c_seq ?_
 refine c_cond rfl (fun h1 => ?_) (fun h1 => ?_)
 ·rw [if_pos (of_decide_eq_true h1)]
  repeat refine c_seq ?_
  refine c_region ?_
  refine qm rfl rfl ?_
  refine qa rfl rfl ?_
  refine step_nil ?_
  exact c_ret ⟨_, res_tmp Try.results78 rfl, rfl⟩
 ·have h2 := of_decide_eq_false h1
  rw [if_neg h2]
  refine c_skip ?_
  repeat refine c_seq ?_
  refine c_region ?_
  refine qm rfl rfl ?_
  refine step_pure rfl (pure_fieldAddr rfl rfl rfl rfl rfl (by decide)) ?_
  refine step_pure rfl (pure_ix (off' := 4 + i.toNat) rfl rfl rfl rfl rfl (by omega) (by omega) (by show 0 + 4 + i.toNat * 1 = _; omega)) ?_
  refine step_pure rfl (pure_load (i := 0) rfl rfl rfl rfl rfl (ac_get (by rw [h8]; omega))) ?_
  refine step_pure rfl (pure_min rfl rfl) ?_
  refine qa rfl rfl ?_
  refine step_nil ?_
  exact c_ret ⟨_, res_tmp Try.results78 rfl, rfl⟩
theorem n_any (a : Ac) (w : World) (h : Ac8 a) : Gives tb 77 [.agg (acC a).toArray] w (.int .i64 (tmN a)) := by
 refine gives_of (fn := Try.f77) Try.func77 rfl Try.ntmps77 rfl ?_
 repeat refine c_seq ?_
 refine c_region ?_
 refine step_box_agg rfl rfl (fun b1 => ?_)
 refine qa rfl rfl ?_
 refine step_nil ?_
 repeat refine c_seq ?_
 refine c_region ?_
 refine step_pure rfl (pure_load_agg (i := 0) (vs := acC a) rfl rfl rfl rfl rfl (ac_le h) (load_all (ac_len h))) ?_
 refine step_gives rfl fun78 rfl (fun w _ _ => param_any a 0 1 w h) ?_
 refine qa rfl rfl ?_
 refine step_nil ?_
 exact c_ret ⟨_, res_tmp Try.results77 rfl, rfl⟩
theorem colour_any (x n : Int) (k : Int) (w : World) (hn : 0 ≤ n ∧ n ≤ 8) : Gives tb 95 [.int .i64 x, .int .i64 k, .int .i64 n] w (.int .i64 (tmColour x k n)) := by
 refine gives_of (fn := Try.f95) Try.func95 rfl Try.ntmps95 rfl ?_
 unfold tmColour
 repeat refine c_seq ?_
 refine c_region ?_
 refine qa rfl rfl ?_
 refine step_nil ?_
 repeat refine c_seq ?_
 refine c_region ?_
 refine qm rfl rfl ?_
 refine step_pure rfl (pure_eql rfl rfl) ?_
 refine step_nil ?_
 repeat refine c_seq ?_
 refine c_cond rfl (fun h1 => ?_) (fun h1 => ?_)
 ·rw [if_pos (beq_iff_eq.1 h1)]
  repeat refine c_seq ?_
  refine c_region ?_
  refine qm rfl rfl ?_
  refine step_pure rfl (pure_andNot rfl rfl) ?_
  refine qm rfl rfl ?_
  first | refine step_pure rfl (pure_mul64 rfl rfl (by omega) (by omega)) ?_ | refine step_pure rfl (pure_mul rfl rfl) ?_
  refine step_pure rfl (pure_or rfl rfl) ?_
  refine qa rfl rfl ?_
  refine step_nil ?_
  exact c_ret ⟨_, res_tmp Try.results95 rfl, rfl⟩
 ·rw [if_neg (by intro e; rw [e] at h1; cases h1)]
  refine c_skip ?_
  repeat refine c_seq ?_
  refine c_region ?_
  refine qm rfl rfl ?_
  refine step_pure rfl (pure_and rfl rfl) ?_
  refine qm rfl rfl ?_
  first | refine step_pure rfl (pure_mul64 rfl rfl (by omega) (by omega)) ?_ | refine step_pure rfl (pure_mul rfl rfl) ?_
  refine step_pure rfl (pure_or rfl rfl) ?_
  refine qa rfl rfl ?_
  refine step_nil ?_
  exact c_ret ⟨_, res_tmp Try.results95 rfl, rfl⟩
theorem look_any (x n : Int) (w : World) : Gives tb 92 [.int .i64 x, .int .i64 n] w (.int .i64 (tmLook x n)) := by
 refine gives_of (fn := Try.f92) Try.func92 rfl Try.ntmps92 rfl ?_
 unfold tmLook
 repeat refine c_seq ?_
 refine c_region ?_
 refine qa rfl rfl ?_
 refine step_nil ?_
 repeat refine c_seq ?_
 refine c_block ?_
 repeat refine c_seq ?_
 refine c_region ?_
 refine qm rfl rfl ?_
 refine step_pure rfl (pure_eql rfl rfl) ?_
 refine qa rfl rfl ?_
 refine step_nil ?_
 repeat refine c_seq ?_
 refine c_cond rfl (fun h1 => ?_) (fun h1 => ?_)
 ·rw [if_pos (beq_iff_eq.1 h1)]
  repeat refine c_seq ?_
  refine c_region ?_
  refine qa rfl rfl ?_
  refine step_nil ?_
  exact c_ret ⟨_, res_tmp Try.results92 rfl, rfl⟩
 rw [if_neg (by intro e; rw [e] at h1; cases h1)]
 clear h1
 repeat refine c_seq ?_
 refine c_region ?_
 refine qm rfl rfl ?_
 refine step_pure rfl (pure_eql rfl rfl) ?_
 refine qa rfl rfl ?_
 refine step_nil ?_
 repeat refine c_seq ?_
 refine c_cond rfl (fun h1 => ?_) (fun h1 => ?_)
 ·rw [if_pos (beq_iff_eq.1 h1)]
  repeat refine c_seq ?_
  refine c_region ?_
  refine qm rfl rfl ?_
  refine step_pure rfl (pure_or rfl rfl) ?_
  refine qa rfl rfl ?_
  refine step_nil ?_
  exact c_ret ⟨_, res_tmp Try.results92 rfl, rfl⟩
 rw [if_neg (by intro e; rw [e] at h1; cases h1)]
 clear h1
 repeat refine c_seq ?_
 refine c_region ?_
 refine qm rfl rfl ?_
 refine step_pure rfl (pure_eql rfl rfl) ?_
 refine qa rfl rfl ?_
 refine step_nil ?_
 repeat refine c_seq ?_
 refine c_cond rfl (fun h1 => ?_) (fun h1 => ?_)
 ·rw [if_pos (beq_iff_eq.1 h1)]
  repeat refine c_seq ?_
  refine c_region ?_
  refine qm rfl rfl ?_
  refine step_pure rfl (pure_or rfl rfl) ?_
  refine qa rfl rfl ?_
  refine step_nil ?_
  exact c_ret ⟨_, res_tmp Try.results92 rfl, rfl⟩
 rw [if_neg (by intro e; rw [e] at h1; cases h1)]
 clear h1
 repeat refine c_seq ?_
 refine c_region ?_
 refine qm rfl rfl ?_
 refine step_pure rfl (pure_eql rfl rfl) ?_
 refine qa rfl rfl ?_
 refine step_nil ?_
 repeat refine c_seq ?_
 refine c_cond rfl (fun h1 => ?_) (fun h1 => ?_)
 ·rw [if_pos (beq_iff_eq.1 h1)]
  repeat refine c_seq ?_
  refine c_region ?_
  refine qm rfl rfl ?_
  refine step_pure rfl (pure_or rfl rfl) ?_
  refine qa rfl rfl ?_
  refine step_nil ?_
  exact c_ret ⟨_, res_tmp Try.results92 rfl, rfl⟩
 rw [if_neg (by intro e; rw [e] at h1; cases h1)]
 clear h1
 repeat refine c_seq ?_
 refine c_region ?_
 refine qm rfl rfl ?_
 refine step_pure rfl (pure_eql rfl rfl) ?_
 refine qa rfl rfl ?_
 refine step_nil ?_
 repeat refine c_seq ?_
 refine c_cond rfl (fun h1 => ?_) (fun h1 => ?_)
 ·rw [if_pos (beq_iff_eq.1 h1)]
  repeat refine c_seq ?_
  refine c_region ?_
  refine qm rfl rfl ?_
  refine step_pure rfl (pure_andNot rfl rfl) ?_
  refine qa rfl rfl ?_
  refine step_nil ?_
  exact c_ret ⟨_, res_tmp Try.results92 rfl, rfl⟩
 rw [if_neg (by intro e; rw [e] at h1; cases h1)]
 clear h1
 repeat refine c_seq ?_
 refine c_region ?_
 refine qm rfl rfl ?_
 refine step_pure rfl (pure_eql rfl rfl) ?_
 refine qa rfl rfl ?_
 refine step_nil ?_
 repeat refine c_seq ?_
 refine c_cond rfl (fun h1 => ?_) (fun h1 => ?_)
 ·rw [if_pos (beq_iff_eq.1 h1)]
  repeat refine c_seq ?_
  refine c_region ?_
  refine qm rfl rfl ?_
  refine step_pure rfl (pure_andNot rfl rfl) ?_
  refine qa rfl rfl ?_
  refine step_nil ?_
  exact c_ret ⟨_, res_tmp Try.results92 rfl, rfl⟩
 rw [if_neg (by intro e; rw [e] at h1; cases h1)]
 clear h1
 repeat refine c_seq ?_
 refine c_region ?_
 refine qm rfl rfl ?_
 refine step_pure rfl (pure_eql rfl rfl) ?_
 refine qa rfl rfl ?_
 refine step_nil ?_
 repeat refine c_seq ?_
 refine c_cond rfl (fun h1 => ?_) (fun h1 => ?_)
 ·rw [if_pos (beq_iff_eq.1 h1)]
  repeat refine c_seq ?_
  refine c_region ?_
  refine qm rfl rfl ?_
  refine step_pure rfl (pure_andNot rfl rfl) ?_
  refine qa rfl rfl ?_
  refine step_nil ?_
  exact c_ret ⟨_, res_tmp Try.results92 rfl, rfl⟩
 rw [if_neg (by intro e; rw [e] at h1; cases h1)]
 clear h1
 repeat refine c_seq ?_
 refine c_region ?_
 refine qm rfl rfl ?_
 refine step_pure rfl (pure_eql rfl rfl) ?_
 refine qa rfl rfl ?_
 refine step_nil ?_
 repeat refine c_seq ?_
 refine c_cond rfl (fun h1 => ?_) (fun h1 => ?_)
 ·rw [if_pos (beq_iff_eq.1 h1)]
  repeat refine c_seq ?_
  refine c_region ?_
  refine qm rfl rfl ?_
  refine step_gives rfl fun95 rfl (fun w _ _ => colour_any x 0 8 w (by decide)) ?_
  refine qa rfl rfl ?_
  refine step_nil ?_
  exact c_ret ⟨_, res_tmp Try.results92 rfl, rfl⟩
 rw [if_neg (by intro e; rw [e] at h1; cases h1)]
 clear h1
 repeat refine c_seq ?_
 refine c_region ?_
 refine qm rfl rfl ?_
 refine step_pure rfl (pure_eql rfl rfl) ?_
 refine qa rfl rfl ?_
 refine step_nil ?_
 repeat refine c_seq ?_
 refine c_cond rfl (fun h1 => ?_) (fun h1 => ?_)
 ·rw [if_pos (beq_iff_eq.1 h1)]
  repeat refine c_seq ?_
  refine c_region ?_
  refine qm rfl rfl ?_
  refine step_gives rfl fun95 rfl (fun w _ _ => colour_any x 0 128 w (by decide)) ?_
  refine qa rfl rfl ?_
  refine step_nil ?_
  exact c_ret ⟨_, res_tmp Try.results92 rfl, rfl⟩
 rw [if_neg (by intro e; rw [e] at h1; cases h1)]
 clear h1
 repeat refine c_seq ?_
 refine c_meet [(0, .int .i64 x), (1, .int .i64 n), (48, .bool (decide (30 ≤ n ∧ n < 38)))] [] ?_ ?_
 ·repeat refine c_seq ?_
  refine c_region ?_
  refine qm rfl rfl ?_
  refine step_pure rfl (pure_geq rfl rfl) ?_
  refine qm rfl rfl ?_
  refine step_split (t := 51) rfl (fun h51 => ?_) (fun h51 => ?_)
  ·refine qm rfl rfl ?_
   refine step_pure rfl (pure_lss rfl rfl) ?_
   refine step_pure rfl (pure_pick_yes rfl rfl) ?_
   refine qa rfl rfl ?_
   refine step_nil ?_
   refine less_of ⟨rfl, rfl, ?_, trivial⟩ rfl
   refine congrArg some (congrArg Value.bool ?_)
   simp_all
   all_goals try first | omega | rfl | (rw [Bool.eq_iff_iff]; simp; done) | (rw [Bool.eq_iff_iff]; simp; omega)
  ·refine qp rfl rfl rfl ?_
   refine qp rfl rfl rfl ?_
   refine step_pure rfl (pure_pick_no rfl rfl) ?_
   refine qa rfl rfl ?_
   refine step_nil ?_
   refine less_of ⟨rfl, rfl, ?_, trivial⟩ rfl
   refine congrArg some (congrArg Value.bool ?_)
   simp_all
   all_goals try first | omega | rfl | (rw [Bool.eq_iff_iff]; simp; done) | (rw [Bool.eq_iff_iff]; simp; omega)
 repeat refine c_seq ?_
 refine c_cond rfl (fun h1 => ?_) (fun h1 => ?_)
 ·have h1 := of_decide_eq_true h1
  rw [if_pos h1]
  repeat refine c_seq ?_
  refine c_region ?_
  refine qm rfl rfl ?_
  refine qm rfl rfl ?_
  first | refine step_pure rfl (pure_sub64 rfl rfl (by omega) (by omega)) ?_ | refine step_pure rfl (pure_sub rfl rfl) ?_
  refine step_gives rfl fun95 rfl (fun w _ _ => colour_any x (n - 29) 8 w (by omega)) ?_
  refine qa rfl rfl ?_
  refine step_nil ?_
  exact c_ret ⟨_, res_tmp Try.results92 rfl, rfl⟩
 rw [if_neg (of_decide_eq_false h1)]
 clear h1
 repeat refine c_seq ?_
 refine c_meet [(0, .int .i64 x), (1, .int .i64 n), (59, .bool (decide (40 ≤ n ∧ n < 48)))] [] ?_ ?_
 ·repeat refine c_seq ?_
  refine c_region ?_
  refine qm rfl rfl ?_
  refine step_pure rfl (pure_geq rfl rfl) ?_
  refine qm rfl rfl ?_
  refine step_split (t := 62) rfl (fun h62 => ?_) (fun h62 => ?_)
  ·refine qm rfl rfl ?_
   refine step_pure rfl (pure_lss rfl rfl) ?_
   refine step_pure rfl (pure_pick_yes rfl rfl) ?_
   refine qa rfl rfl ?_
   refine step_nil ?_
   refine less_of ⟨rfl, rfl, ?_, trivial⟩ rfl
   refine congrArg some (congrArg Value.bool ?_)
   simp_all
   all_goals try first | omega | rfl | (rw [Bool.eq_iff_iff]; simp; done) | (rw [Bool.eq_iff_iff]; simp; omega)
  ·refine qp rfl rfl rfl ?_
   refine qp rfl rfl rfl ?_
   refine step_pure rfl (pure_pick_no rfl rfl) ?_
   refine qa rfl rfl ?_
   refine step_nil ?_
   refine less_of ⟨rfl, rfl, ?_, trivial⟩ rfl
   refine congrArg some (congrArg Value.bool ?_)
   simp_all
   all_goals try first | omega | rfl | (rw [Bool.eq_iff_iff]; simp; done) | (rw [Bool.eq_iff_iff]; simp; omega)
 repeat refine c_seq ?_
 refine c_cond rfl (fun h1 => ?_) (fun h1 => ?_)
 ·have h1 := of_decide_eq_true h1
  rw [if_pos h1]
  repeat refine c_seq ?_
  refine c_region ?_
  refine qm rfl rfl ?_
  refine qm rfl rfl ?_
  first | refine step_pure rfl (pure_sub64 rfl rfl (by omega) (by omega)) ?_ | refine step_pure rfl (pure_sub rfl rfl) ?_
  refine step_gives rfl fun95 rfl (fun w _ _ => colour_any x (n - 39) 128 w (by omega)) ?_
  refine qa rfl rfl ?_
  refine step_nil ?_
  exact c_ret ⟨_, res_tmp Try.results92 rfl, rfl⟩
 rw [if_neg (of_decide_eq_false h1)]
 clear h1
 refine c_skip ?_
 repeat refine c_seq ?_
 refine c_region ?_
 refine qm rfl rfl ?_
 refine qa rfl rfl ?_
 refine step_nil ?_
 exact c_ret ⟨_, res_tmp Try.results92 rfl, rfl⟩
/-! a sequence's numbers, as a slice -/
def PmR (a : Ac) (u : Value) (C : Addr → Value → Prop) : Prop := SlC C 1 u (tmParams a).length (ints .i64 (tmParams a))
theorem pmR_mono {a : Ac} : ∀ v (C C' : Addr → Value → Prop), (∀ p x, C p x → C' p x) → PmR a v C → PmR a v C' := fun v C C' hC h => h.mono hC
theorem tmMany_in (a : Ac) : 0 ≤ tmMany a ∧ tmMany a ≤ 8 := by
 unfold tmMany
 omega
theorem tmParams_len {a : Ac} (h : Ac8 a) : (tmParams a).length = (tmMany a).toNat := by
 have := tmMany_in a
 have h8 : a.ps.length = 8 := h
 unfold tmParams
 rw [List.length_take, h8]
 omega
theorem params_P (a : Ac) (w : World) {Z : Nat → Prop} (hZ : ∀ j, w.heap.size ≤ j → Z j) (h : Ac8 a) : GivesP tb 27 [.agg (acC a).toArray] w Z (PmR a) := by
 have hin := tmMany_in a
 have h8 : a.ps.length = 8 := h
 refine givesP_of (fn := Try.f27) Try.func27 rfl Try.ntmps27 rfl hZ pmR_mono (fun on => ?_)
 have hpl := tmParams_len h
 repeat refine s_seqs ?_
 refine s_reg ?_
 refine step_box_agg rfl rfl (fun b1 => ?_)
 refine qa rfl rfl ?_
 refine Vc.step_end (fun a w ok => ?_)
 first | (refine WPs.run ?_ a w ok; clear ok w a) | skip
 repeat refine s_seqs ?_
 refine s_reg ?_
 refine step_pure rfl (pure_fieldAddr rfl rfl rfl rfl rfl (by decide)) ?_
 refine step_pure rfl (pure_fieldAddr rfl rfl rfl rfl rfl (by decide)) ?_
 refine step_pure rfl (pure_load (i := 0) rfl rfl rfl rfl rfl rfl) ?_
 refine step_pure rfl (pure_max rfl rfl) ?_
 refine step_pure rfl (pure_min rfl rfl) ?_
 refine step_as rfl (pure_add64 rfl rfl (by omega) (by omega)) (show _ = Value.int .i64 (tmMany a) from rfl) ?_
 refine step_pure rfl (pure_arr_hi rfl rfl rfl rfl rfl hin.1 hin.2) ?_
 refine qa rfl rfl ?_
 refine Vc.step_end (fun a w ok => ?_)
 first | (refine WPs.run ?_ a w ok; clear ok w a) | skip
 refine s_let 0 rfl (fun E2 g hc => ?_)
 have hf := hc _ on.sc
 replace on := on.next g
 refine s_ret fun a' w' ok => ends_givesP on (.inr rfl) ok (res_tmp Try.results27 rfl) pmR_mono ?_
 refine ⟨some ⟨b1, 4, none⟩, 8, by rw [hpl], by rw [hpl]; omega, by rw [ints_len, Nat.mul_one], fun hne => ⟨_, rfl, fun j x hx => ?_⟩⟩
 rw [add_none]
 refine hf (4 + j) x ?_
 rw [Nat.add_comm]
 have hx2 : ((ints .i64 a.ps).take (tmMany a).toNat)[j]? = some x := by
  unfold tmParams ints at hx
  rw [List.map_take] at hx
  exact hx
 rw [List.getElem?_take] at hx2
 split at hx2
 ·exact hx2
 ·cases hx2
set_option maxHeartbeats 1000000 in
theorem lookA_any (x : Int) (a : Ac) (w : World) (h : Ac8 a) : Gives tb 83 [.int .i64 x, .agg (acC a).toArray] w (.int .i64 (tmLookA x a)) := by
 refine gives_ofk (fn := Try.f83) Try.func83 rfl Try.ntmps83 rfl (fun on => ?_)
 repeat refine s_seqs ?_
 refine s_reg ?_
 refine step_box_agg rfl rfl (fun b3 => ?_)
 refine qa rfl rfl ?_
 refine Vc.step_end (fun a w ok => ?_)
 first | (refine WPs.run ?_ a w ok; clear ok w a) | skip
 repeat refine s_seqs ?_
 refine s_reg ?_
 refine qm rfl rfl ?_
 refine step_pure rfl (pure_max rfl rfl) ?_
 refine step_as rfl (pure_min rfl rfl) (show _ = Value.int .i64 (clampI x 0 2047) from rfl) ?_
 refine qa rfl rfl ?_
 refine Vc.step_end (fun a w ok => ?_)
 first | (refine WPs.run ?_ a w ok; clear ok w a) | skip
 repeat refine s_seqs ?_
 refine s_reg ?_
 refine step_pure rfl (pure_load_agg (i := 0) (vs := acC a) rfl rfl rfl rfl rfl (ac_le h) (load_all (ac_len h))) ?_
 refine step_givesP on.sc rfl fun27 rfl (fun w' Z' hh kp hZ hC => params_P a w' hZ h) ?_
 rintro v E1 g hv
 replace on := on.next g
 clear g
 replace hv : SlC _ 1 v (tmParams a).length (ints .i64 (tmParams a)) := hv
 obtain ⟨base0, cap0, rfl, _⟩ := slc_sl hv
 refine step_pure rfl (pure_len_slice rfl rfl rfl) ?_
 refine qm rfl rfl ?_
 refine Vc.step_end (fun a w ok => ?_)
 first | (refine WPs.run ?_ a w ok; clear ok w a) | skip
 have hpl : (tmParams a).length ≤ 8 := by rw [tmParams_len h]; have := tmMany_in a; omega
 unfold tmLookA
 generalize tmParams a = l at *
 repeat refine s_seqs ?_
 refine s_block ?_
 repeat refine s_seqs ?_
 refine s_loopP (α := Nat × Int) (fun y => [(0, .int .i64 y.2), (11, .slice base0 l.length cap0), (12, .int .i64 l.length), (13, .int .i64 y.1)]) (fun _ => [])
  (fun y _ => y.1 ≤ l.length ∧ tmLooks (clampI x 0 2047) l = tmLooks y.2 (l.drop y.1)) (fun y => l.length - y.1) (0, clampI x 0 2047) ⟨Nat.zero_le _, rfl⟩ (less_sub ⟨rfl, rfl, rfl, rfl, trivial⟩ (by repeat (first | exact List.Sublist.refl _ | exact List.nil_sublist _ | apply List.Sublist.cons_cons | apply List.Sublist.cons))) ?_
 rintro ⟨i, y⟩ E2 ⟨hi, hrun⟩ g
 replace on := on.next g
 replace hv := hv.mono g.cz
 clear g
 dsimp only at hi hrun ⊢
 repeat refine s_seqs ?_
 refine s_reg ?_
 refine step_pure rfl (pure_lss rfl rfl) ?_
 refine Vc.step_end (fun a w ok => ?_)
 first | (refine WPs.run ?_ a w ok; clear ok w a) | skip
 repeat refine s_seqs ?_
 refine s_cond rfl (fun h1 => ?_) (fun h1 => ?_)
 ·have hlt : i < l.length := by have := of_decide_eq_true h1; omega
  clear h1
  refine s_skip fun a w ok => WPs.run ?_ a w ok
  clear ok w a
  obtain ⟨p, cap', e1, q1⟩ := slc_at1 hv hlt
  cases e1
  have hd : l.drop i = l[i] :: l.drop (i + 1) := List.drop_eq_getElem_cons hlt
  generalize l[i] = n at *
  repeat refine s_seqs ?_
  refine s_block ?_
  repeat refine s_seqs ?_
  refine s_reg ?_
  refine step_pure rfl (pure_indexAddr_at rfl rfl rfl rfl rfl (by omega) (by omega)) ?_
  refine step_pure rfl (pure_cel rfl rfl rfl (show (Cel E2) _ _ from by rw [Int.toNat_natCast]; exact q1.1)) ?_
  refine qa rfl rfl ?_
  refine Vc.step_end (fun a w ok => ?_)
  first | (refine WPs.run ?_ a w ok; clear ok w a) | skip
  repeat refine s_seqs ?_
  refine s_reg ?_
  refine qm rfl rfl ?_
  refine qm rfl rfl ?_
  refine step_gives rfl fun92 rfl (fun w _ _ => look_any y n w) ?_
  refine qa rfl rfl ?_
  refine Vc.step_end (fun a w ok => ?_)
  first | (refine WPs.run ?_ a w ok; clear ok w a) | skip
  repeat refine s_seqs ?_
  refine s_reg ?_
  first | refine step_pure rfl (pure_add64 rfl rfl (by omega) (by omega)) ?_ | refine step_pure rfl (pure_add rfl rfl) ?_
  refine qm rfl rfl ?_
  refine Vc.step_end (fun a w ok => ?_)
  refine ⟨(i + 1, tmLook y n), E2, ⟨hlt, by rw [hrun, hd]; rfl⟩, by show l.length - (i + 1) < l.length - i; omega, Gt.refl _, Less.ok ?_ ok⟩
  exact less_sub ⟨rfl, rfl, rfl, rfl, trivial⟩ (by repeat (first | exact List.Sublist.refl _ | exact List.nil_sublist _ | apply List.Sublist.cons_cons | apply List.Sublist.cons))
 ·have hge : i = l.length := by have := of_decide_eq_false h1; omega
  clear h1
  subst hge
  rw [List.drop_length] at hrun
  refine s_exit fun a w ok => WPs.run ?_ a w ok
  clear ok w a
  repeat refine s_seqs ?_
  refine s_reg ?_
  refine qm rfl rfl ?_
  refine qa rfl rfl ?_
  refine Vc.step_end (fun a w ok => ?_)
  first | (refine WPs.run ?_ a w ok; clear ok w a) | skip
  exact s_ret fun a w ok => ends_k on (.inr rfl) ok (by rw [hrun]; exact res_tmp Try.results83 rfl)
end Go.Proofs.Ytadginombcjbeaa
