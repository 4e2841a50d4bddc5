/- Cells repeated: walked. -/
import Derived.Test.YtbcpgdjhomoghaaG9
namespace Go.Proofs.Ytbcpgdjhomoghaa
open Go.RowKit Go.Vc
set_option linter.unusedVariables false
def RpR (n : Nat) (u : Value) (m1 : Mem) (C : Addr → Value → Prop) : Prop := ∃ b, u = .slice (some ⟨b, 0, none⟩) n n ∧ m1 = [⟨b, ceR (List.replicate n blC), tC⟩]
theorem rpR_mono {n : Nat} : ∀ v m1 (C C' : Addr → Value → Prop), (∀ p x, C p x → C' p x) → RpR n v m1 C → RpR n v m1 C' := fun _ _ _ _ _ h => h
def rpL (n i : Nat) : List Ce := List.replicate i blC ++ List.replicate (n - i) (0, 0)
theorem rpL_len {n i : Nat} (h : i ≤ n) : (rpL n i).length = n := by unfold rpL; rw [List.length_append, List.length_replicate, List.length_replicate]; omega
theorem rpL_get (n i j : Nat) : (rpL n i).getD j blC = if j < i then blC else if j < n then (0, 0) else blC := by
 unfold rpL
 rw [List.getD_eq_getElem?_getD]
 by_cases h : j < i
 ·rw [if_pos h, List.getElem?_append_left (by rw [List.length_replicate]; exact h), List.getElem?_replicate, if_pos h]
  rfl
 ·rw [if_neg h, List.getElem?_append_right (by rw [List.length_replicate]; omega), List.length_replicate, List.getElem?_replicate]
  by_cases h2 : j < n
  ·rw [if_pos h2, if_pos (by omega)]
   rfl
  ·rw [if_neg h2, if_neg (by omega)]
   rfl
theorem rpL_next {n i q : Nat} (h : i + q ≤ n) : splice (rpL n i) i (List.replicate q blC) = rpL n (i + q) := by
 refine ext_getD (by rw [splice_len (by rw [List.length_replicate, rpL_len (by omega)]; exact h), rpL_len (by omega), rpL_len h]) fun j hj => ?_
 rw [splice_getD _ _ _ _ (by rw [List.length_replicate, rpL_len (by omega)]; exact h), rpL_get, rpL_get, getD_replicate, List.length_replicate]
 by_cases h1 : i ≤ j ∧ j < i + q
 ·rw [if_pos h1, if_pos (by omega)]
 ·rw [if_neg h1]
  by_cases h2 : j < i
  ·rw [if_pos h2, if_pos (by omega)]
  ·rw [if_neg h2, if_neg (show ¬ j < i + q by omega)]
theorem rpL_src {n i q : Nat} (h : q ≤ i) : ((rpL n i).drop 0).take q = List.replicate q blC := by
 unfold rpL
 rw [List.drop_zero, List.take_append_of_le_length (by rw [List.length_replicate]; exact h), List.take_replicate, Nat.min_eq_left h]
theorem rpL_all (n : Nat) : rpL n n = List.replicate n blC := by
 unfold rpL
 rw [Nat.sub_self]
 exact List.append_nil _
theorem ceR_zero (n : Nat) : rowOf [.int .i64 0, .int .i64 0] (n * 2) = ceR (rpL n 0) := by
 have h1 : ∀ k : Nat, ceR (List.replicate k (0, 0)) = List.replicate (k * 2) (.int .i64 0) := by
  intro k
  induction k with
  | zero => rfl
  | succ k ih => rw [List.replicate_succ, ceR_cons, ih, show (k + 1) * 2 = k * 2 + 1 + 1 by omega, List.replicate_succ, List.replicate_succ]
 show _ = ceR (List.replicate (n - 0) (0, 0))
 rw [Nat.sub_zero, h1]
 refine List.ext_getElem ?_ fun i h2 h3 => ?_
 ·simp [rowOf, madeCells]
 ·rw [List.getElem_replicate]
  simp only [rowOf, madeCells, Array.getElem_toList, Array.getElem_map, Array.getElem_range]
  rcases Nat.mod_two_eq_zero_or_one i with h | h
  ·simp [h]
  ·simp [h]
set_option maxHeartbeats 1000000 in
theorem repeat_W (n : Nat) (v : Value) (w : World) {Z : Nat → Prop} (hZ : ∀ j, w.heap.size ≤ j → Z j) (hv : SlC (At w) 2 v 1 (ceR [blC])) (h1 : 1 ≤ n) (h2 : n ≤ 4096) :
  Wm tb 26 [v, .int .i64 n] w Z [] (RpR n) := by
 obtain ⟨base, cap, rfl, hcap⟩ := slc_sl hv
 have hml := fun w => mul_any n h2 w
 have hs3 := small64n h2
 have hw64 : IntKind.i64.wrap (n : Int) = n := wrap_i64 (by omega) (by omega)
 have hn0 := ceR_zero n
 have hle0 := rpL_len (Nat.zero_le n)
 refine wm_of (fn := Try.f26) Try.func26 rfl Try.ntmps26 rfl trivial hZ (by intro b hb; cases hb) rpR_mono (fun on => ?_)
 repeat refine s_seqs ?_
 refine s_reg ?_
 refine qa rfl rfl ?_
 refine Vc.step_end (fun a w ok => ?_)
 first | (refine WPs.run ?_ a w ok; clear ok w a) | skip
 repeat refine s_seqs ?_
 refine s_reg ?_
 refine qm rfl rfl ?_
 refine step_pure rfl (pure_lss rfl rfl) ?_
 refine Vc.step_end (fun a w ok => ?_)
 first | (refine WPs.run ?_ a w ok; clear ok w a) | skip
 repeat refine s_seqs ?_
 refine s_cond_no rfl (decide_eq_false (by omega)) ?_
 refine s_skip fun a w ok => WPs.run ?_ a w ok
 clear ok w a
 repeat refine s_seqs ?_
 refine s_reg ?_
 refine qm rfl rfl ?_
 refine step_pure rfl (pure_len_slice rfl rfl rfl) ?_
 refine step_as rfl (pure_conv rfl rfl rfl rfl) (show _ = Value.int .u64 1 from congrArg (Value.int .u64) (by decide)) ?_
 refine qm rfl rfl ?_
 refine step_as rfl (pure_conv rfl rfl rfl rfl) (show _ = Value.int .u64 n from congrArg (Value.int .u64) hs3) ?_
 refine step_gives rfl fun53 rfl (fun w _ _ => hml w) ?_
 refine qm rfl rfl ?_
 refine qx rfl rfl rfl ?_
 refine qx rfl rfl rfl ?_
 refine qa rfl rfl ?_
 refine qa rfl rfl ?_
 refine Vc.step_end (fun a w ok => ?_)
 first | (refine WPs.run ?_ a w ok; clear ok w a) | skip
 repeat refine s_seqs ?_
 refine s_reg ?_
 refine qm rfl rfl ?_
 refine step_as rfl (pure_gtr rfl rfl) (show _ = Value.bool false from congrArg Value.bool (by decide)) ?_
 refine qm rfl rfl ?_
 first | refine qm rfl rfl ?_ | refine qp rfl rfl rfl ?_
 first | refine step_as rfl (pure_gtr rfl rfl) (show _ = Value.bool false from congrArg Value.bool (decide_eq_false (by omega))) ?_ | refine qp rfl rfl rfl ?_
 first | refine step_pure rfl (pure_pick_yes rfl rfl) ?_ | refine step_pure rfl (pure_pick_no rfl rfl) ?_ | refine step_pure rfl (pure_pick_bool rfl rfl rfl) ?_
 refine Vc.step_end (fun a w ok => ?_)
 first | (refine WPs.run ?_ a w ok; clear ok w a) | skip
 repeat refine s_seqs ?_
 refine s_cond_no rfl rfl ?_
 refine s_skip fun a w ok => WPs.run ?_ a w ok
 clear ok w a
 repeat refine s_seqs ?_
 refine s_reg ?_
 refine qm rfl rfl ?_
 refine step_as rfl (pure_conv rfl rfl rfl rfl) (show _ = Value.int .i64 n from congrArg (Value.int .i64) hw64) ?_
 refine step_make (l := n) (c := n) rfl rfl rfl rfl rfl elem33 (Nat.le_refl _) (by omega) (by omega) (fun b30 => ?_)
 rw [show rowOf [.int .i64 0, .int .i64 0] (n * uC.size) = ceR (rpL n 0) from hn0]
 refine qa rfl rfl ?_
 refine Vc.step_end (fun a w ok => ?_)
 first | (refine WPs.run ?_ a w ok; clear ok w a) | skip
 repeat refine s_seqs ?_
 refine s_reg ?_
 refine qm rfl rfl ?_
 refine qm rfl rfl ?_
 refine step_eff rfl rfl (eff_copy (i := 0) (q := 1) (news := ceR [blC]) rfl rfl rfl rfl rfl rfl rfl rfl (by show Nat.min 1 n = _; exact Nat.min_eq_left h1) rfl (src_slc (fun w' hh kp => hv.mono (at_keep kp))) (ceR_one _) (by show 0 + 2 ≤ (ceR (rpL n 0)).length; rw [ceR_len, hle0]; omega) (by intro h0; have := congrArg List.length h0; rw [ceR_len, hle0] at this; simp only [List.length_nil] at this; omega)) ?_
 rintro v m' ⟨rfl, rfl⟩
 rw [show setAt [(⟨b30, ceR (rpL n 0), tC⟩ : Ent)] 0 (splice (ceR (rpL n 0)) 0 (ceR [blC])) = [⟨b30, ceR (rpL n 1), tC⟩] from by rw [ceR_splice (rpL n 0) [blC] 0, show splice (rpL n 0) 0 [blC] = rpL n 1 from rpL_next (i := 0) (q := 1) (by omega)]; rfl]
 refine qa rfl rfl ?_
 refine Vc.step_end (fun a w ok => ?_)
 first | (refine WPs.run ?_ a w ok; clear ok w a) | skip
 repeat refine s_seqs ?_
 refine s_block ?_
 repeat refine s_seqs ?_
 refine s_loopP (α := Nat) (fun i => [(7, .slice (some ⟨b30, 0, none⟩) n n), (8, .int .i64 i)]) (fun i => [⟨b30, ceR (rpL n i), tC⟩])
  (fun i E => 1 ≤ i ∧ i ≤ n) (fun i => n - i) 1 ⟨Nat.le_refl _, h1⟩ (less_of ⟨rfl, rfl, trivial⟩ rfl) ?_
 rintro i E1 ⟨hi1, hi⟩ g
 replace on := on.next g
 clear g
 repeat refine s_seqs ?_
 refine s_reg ?_
 refine qm rfl rfl ?_
 refine qm rfl rfl ?_
 refine step_pure rfl (pure_len_slice rfl rfl rfl) ?_
 refine step_pure rfl (pure_lss rfl rfl) ?_
 refine Vc.step_end (fun a w ok => ?_)
 first | (refine WPs.run ?_ a w ok; clear ok w a) | skip
 repeat refine s_seqs ?_
 refine s_cond rfl (fun h => ?_) (fun h => ?_)
 ·have hlt : i < n := by have := of_decide_eq_true h; omega
  clear h
  refine s_skip fun a w ok => WPs.run ?_ a w ok
  clear ok w a
  have hll := rpL_len hi
  obtain ⟨q, hq⟩ : ∃ q, q = Nat.min i (n - i) := ⟨_, rfl⟩
  have hq1 : q ≤ i := by rw [hq]; exact Nat.min_le_left ..
  have hq2 : q ≤ n - i := by rw [hq]; exact Nat.min_le_right ..
  have hq0 : 1 ≤ q := by rw [hq]; exact Nat.le_min.2 ⟨hi1, by omega⟩
  have hnx := rpL_next (n := n) (i := i) (q := q) (by omega)
  have hpl : Plc (rpL n i) (i * 2) i q := ⟨fun _ => rfl, Nat.le_refl _, by omega⟩
  have hsp := plc_wr (x := List.replicate q blC) (tl := []) hpl (List.length_replicate ..)
  rw [hnx, List.append_nil, List.append_nil] at hsp
  have hsrc := src_part (B := tb) (E := E1) (m := [⟨b30, ceR (rpL n i) ++ [], tC⟩]) hq1 (fun w' hh kp => plc_slc (j := 0) (off := 0) (o := 0) (k := i) (cap := n) hh rfl ⟨fun _ => rfl, Nat.le_refl _, by omega⟩ hi)
  rw [List.append_nil, rpL_src (Nat.le_refl i), ceR_take, List.take_replicate, Nat.min_eq_left hq1] at hsrc
  have hcl : (ceR (rpL n i)).length = n * 2 := by rw [ceR_len, hll]
  have hol := ceR_one (List.replicate q blC)
  have hrl : (ceR (List.replicate q blC)).length = q * 2 := by rw [ceR_len, List.length_replicate]
  generalize ceR (List.replicate q blC) = nw at *
  repeat refine s_seqs ?_
  refine s_block ?_
  repeat refine s_seqs ?_
  refine s_dreg [1, 9, 17, 25, 33, 41, 49, 60, 65, 73] [] follows (by kernel_rfl) ?_
  refine qd rfl rfl rfl rfl ?_
  refine qd rfl rfl rfl rfl ?_
  refine qd rfl rfl rfl rfl ?_
  refine d_as0 rfl rfl rfl (pure_sub_lo rfl rfl rfl rfl rfl (by omega) (by omega)) (show subS (some ⟨b30, 0, none⟩) n 2 (i : Int).toNat n = Value.slice (some ⟨b30, i * 2, none⟩) (n - i) (n - i) from by rw [Int.toNat_natCast]; unfold subS; rw [if_neg (by omega)]; exact congrArg (fun a => Value.slice (some a) _ _) ((add_none ..).trans (by rw [Nat.zero_add]))) ?_
  refine qd rfl rfl rfl rfl ?_
  refine qd rfl rfl rfl rfl ?_
  refine d_as0 rfl rfl rfl (pure_sub_hi rfl rfl rfl rfl rfl (by omega) (by omega)) (show subS (some ⟨b30, 0, none⟩) n 2 0 (i : Int).toNat = Value.slice (some ⟨b30, 0, none⟩) i n from by rw [Int.toNat_natCast]; unfold subS; rw [if_neg (by omega)]; rfl) ?_
  refine d_only rfl rfl rfl rfl (eff_copy (i := 0) (q := q) (news := nw) rfl rfl rfl rfl rfl rfl rfl rfl hq.symm hrl hsrc hol (by show i * 2 + nw.length ≤ (ceR (rpL n i)).length; omega) (by intro h0; have := congrArg List.length h0; rw [hcl] at this; simp only [List.length_nil] at this; omega)) ?_ rfl
  rintro v m' ⟨rfl, rfl⟩
  refine ⟨fun h => (by cases h), ?_⟩
  first | refine d_pure0 rfl rfl rfl (pure_add64 rfl rfl (by omega) (by omega)) ?_ | refine d_pure0 rfl rfl rfl (pure_add rfl rfl) ?_
  refine d_pure0 rfl rfl rfl (pure_assign rfl) ?_
  refine d_end (fun a w ok => ?_)
  refine ⟨i + q, _, ⟨by omega, by omega⟩, by omega, Gt.refl _, Less.ok ?_ ok⟩
  exact less_of ⟨rfl, by rw [Int.natCast_add]; rfl, trivial⟩ (by rw [hsp]; rfl)
 ·have hie : i = n := by have := of_decide_eq_false h; omega
  subst hie
  refine s_exit fun a w ok => WPs.run ?_ a w ok
  clear ok w a
  repeat refine s_seqs ?_
  refine s_reg ?_
  refine qm rfl rfl ?_
  refine qa rfl rfl ?_
  refine Vc.step_end (fun a w ok => ?_)
  first | (refine WPs.run ?_ a w ok; clear ok w a) | skip
  exact s_ret fun a w ok => ends_wm on (.inr rfl) ok (res_tmp Try.results26 rfl) (m1 := [_]) (mr := []) (List.Perm.refl _) rpR_mono ⟨b30, rfl, by rw [rpL_all]⟩
end Go.Proofs.Ytbcpgdjhomoghaa
