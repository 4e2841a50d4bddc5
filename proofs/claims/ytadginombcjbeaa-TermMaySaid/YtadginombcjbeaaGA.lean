/- Products of words, cells repeated: walked. -/
import Derived.Test.YtadginombcjbeaaG8
import Derived.Test.YtadginombcjbeaaG1
namespace Go.Proofs.Ytadginombcjbeaa
open Go.RowKit Go.Vc
set_option linter.unusedVariables false
theorem low32n {n : Nat} (h : n ≤ 4096) : bits .and .u64 (n : Int) 4294967295 = (n : Int) := by
 have h1 : ((BitVec.ofInt IntKind.u64.bits (n : Int)) &&& (BitVec.ofInt IntKind.u64.bits 4294967295)).toNat = n := by
  rw [BitVec.toNat_and, BitVec.toNat_ofInt, BitVec.toNat_ofInt]
  show ((n : Int) % 18446744073709551616).toNat &&& (4294967295 : Nat) = n
  rw [show ((n : Int) % 18446744073709551616).toNat = n by omega, show (4294967295 : Nat) = 2 ^ 32 - 1 from rfl, Nat.and_two_pow_sub_one_eq_mod]
  exact Nat.mod_eq_of_lt (by omega)
 show IntKind.u64.wrap (((BitVec.ofInt IntKind.u64.bits (n : Int)) &&& (BitVec.ofInt IntKind.u64.bits 4294967295)).toNat : Int) = n
 rw [h1]
 exact IntWalk.u64_in _ (by omega)
theorem high32n {n : Nat} (h : n ≤ 4096) : (n : Int) / 2 ^ min (32 : Int).toNat IntKind.u64.bits = 0 := by
 rw [show (2 : Int) ^ min (32 : Int).toNat IntKind.u64.bits = 4294967296 from by decide]
 omega
theorem small64n {n : Nat} (h : n ≤ 4096) : IntKind.u64.wrap (n : Int) = (n : Int) := IntWalk.u64_in _ (by omega)
theorem mul64_any (n : Nat) (h : n ≤ 4096) (w : World) : Gives tb 94 [.int .u64 1, .int .u64 n] w (.tuple #[.int .u64 0, .int .u64 n]) := by
 have h1 := low32n h
 have h2 := high32n h
 have h3 := small64n h
 have h4 : IntKind.u64.wrap (1 * (n : Int)) = n := by rw [Int.one_mul]; exact h3
 generalize (n : Int) = N at *
 refine gives_of (fn := Try.f94) Try.func94 rfl Try.ntmps94 rfl ?_
 repeat refine c_seq ?_
 refine c_region ?_
 refine qa rfl rfl ?_
 refine qa rfl rfl ?_
 refine step_nil ?_
 repeat refine c_seq ?_
 refine c_region ?_
 refine qm rfl rfl ?_
 refine step_as rfl (pure_and rfl rfl) (show _ = Value.int .u64 1 from congrArg (Value.int .u64) (by decide)) ?_
 refine qa rfl rfl ?_
 refine step_nil ?_
 repeat refine c_seq ?_
 refine c_region ?_
 refine qm rfl rfl ?_
 refine step_as rfl (pure_shr rfl rfl (by decide)) (show _ = Value.int .u64 0 from congrArg (Value.int .u64) (by decide)) ?_
 refine qa rfl rfl ?_
 refine step_nil ?_
 repeat refine c_seq ?_
 refine c_region ?_
 refine qm rfl rfl ?_
 refine step_as rfl (pure_and rfl rfl) (congrArg (Value.int .u64) h1) ?_
 refine qa rfl rfl ?_
 refine step_nil ?_
 repeat refine c_seq ?_
 refine c_region ?_
 refine qm rfl rfl ?_
 refine step_as rfl (pure_shr rfl rfl (by decide)) (congrArg (Value.int .u64) h2) ?_
 refine qa rfl rfl ?_
 refine step_nil ?_
 repeat refine c_seq ?_
 refine c_region ?_
 refine qm rfl rfl ?_
 refine qm rfl rfl ?_
 refine step_as rfl (pure_mul rfl rfl) (congrArg (Value.int .u64) h4) ?_
 refine qa rfl rfl ?_
 refine step_nil ?_
 repeat refine c_seq ?_
 refine c_region ?_
 refine qm rfl rfl ?_
 refine qm rfl rfl ?_
 refine step_as rfl (pure_mul rfl rfl) (show _ = Value.int .u64 0 from congrArg (Value.int .u64) (by rw [Int.zero_mul]; decide)) ?_
 refine qm rfl rfl ?_
 refine step_as rfl (pure_shr rfl rfl (by decide)) (congrArg (Value.int .u64) h2) ?_
 refine step_as rfl (pure_add rfl rfl) (show _ = Value.int .u64 0 from congrArg (Value.int .u64) (by decide)) ?_
 refine qa rfl rfl ?_
 refine step_nil ?_
 repeat refine c_seq ?_
 refine c_region ?_
 refine qm rfl rfl ?_
 refine step_as rfl (pure_and rfl rfl) (show _ = Value.int .u64 0 from congrArg (Value.int .u64) (by decide)) ?_
 refine qa rfl rfl ?_
 refine step_nil ?_
 repeat refine c_seq ?_
 refine c_region ?_
 refine qm rfl rfl ?_
 refine step_as rfl (pure_shr rfl rfl (by decide)) (show _ = Value.int .u64 0 from congrArg (Value.int .u64) (by decide)) ?_
 refine qa rfl rfl ?_
 refine step_nil ?_
 repeat refine c_seq ?_
 refine c_region ?_
 refine qm rfl rfl ?_
 refine qm rfl rfl ?_
 refine qm rfl rfl ?_
 refine step_as rfl (pure_mul rfl rfl) (show _ = Value.int .u64 0 from congrArg (Value.int .u64) (by decide)) ?_
 refine step_as rfl (pure_add rfl rfl) (show _ = Value.int .u64 0 from congrArg (Value.int .u64) (by decide)) ?_
 refine qa rfl rfl ?_
 refine step_nil ?_
 repeat refine c_seq ?_
 refine c_region ?_
 refine qm rfl rfl ?_
 refine qm rfl rfl ?_
 refine step_as rfl (pure_mul rfl rfl) (show _ = Value.int .u64 0 from congrArg (Value.int .u64) (by decide)) ?_
 refine qm rfl rfl ?_
 refine step_as rfl (pure_add rfl rfl) (show _ = Value.int .u64 0 from congrArg (Value.int .u64) (by decide)) ?_
 refine qm rfl rfl ?_
 refine step_as rfl (pure_shr rfl rfl (by decide)) (show _ = Value.int .u64 0 from congrArg (Value.int .u64) (by decide)) ?_
 refine step_as rfl (pure_add rfl rfl) (show _ = Value.int .u64 0 from congrArg (Value.int .u64) (by decide)) ?_
 refine qa rfl rfl ?_
 refine step_nil ?_
 repeat refine c_seq ?_
 refine c_region ?_
 refine qm rfl rfl ?_
 refine qm rfl rfl ?_
 refine step_as rfl (pure_mul rfl rfl) (congrArg (Value.int .u64) h4) ?_
 refine qa rfl rfl ?_
 refine step_nil ?_
 exact c_ret ⟨_, res_tmp2 Try.results94 rfl rfl, rfl⟩
theorem mul_any (n : Nat) (h : n ≤ 4096) (w : World) : Gives tb 86 [.int .u64 1, .int .u64 n] w (.tuple #[.int .u64 0, .int .u64 n]) := by
 have h3 := fun w => mul64_any n h w
 generalize (n : Int) = N at *
 refine gives_of (fn := Try.f86) Try.func86 rfl Try.ntmps86 rfl ?_
 repeat refine c_seq ?_
 refine c_region ?_
 refine qa rfl rfl ?_
 refine qa rfl rfl ?_
 refine step_nil ?_
 repeat refine c_seq ?_
 refine c_cond_no rfl rfl ?_
 refine c_skip ?_
 repeat refine c_seq ?_
 refine c_region ?_
 refine qm rfl rfl ?_
 refine qm rfl rfl ?_
 refine step_gives rfl fun94 rfl (fun w _ _ => h3 w) ?_
 refine qm rfl rfl ?_
 refine qx rfl rfl rfl ?_
 refine qx rfl rfl rfl ?_
 refine qa rfl rfl ?_
 refine qa rfl rfl ?_
 refine step_nil ?_
 repeat refine c_seq ?_
 refine c_region ?_
 refine qm rfl rfl ?_
 refine qm rfl rfl ?_
 refine qa rfl rfl ?_
 refine qa rfl rfl ?_
 refine step_nil ?_
 exact c_ret ⟨_, res_tmp2 Try.results86 rfl rfl, rfl⟩
end Go.Proofs.Ytadginombcjbeaa
/- Cells repeated: walked. -/
namespace Go.Proofs.Ytadginombcjbeaa
open Go.RowKit Go.Vc
set_option linter.unusedVariables false
def RpR (n : Nat) (u : Value) (m1 : Mem) (C : Addr → Value → Prop) : Prop := ∃ b, u = .slice (some ⟨b, 0, none⟩) n n ∧ m1 = [⟨b, ceR (List.replicate n blC), tC⟩]
theorem rpR_mono {n : Nat} : ∀ v m1 (C C' : Addr → Value → Prop), (∀ p x, C p x → C' p x) → RpR n v m1 C → RpR n v m1 C' := fun _ _ _ _ _ h => h
def rpL (n i : Nat) : List Ce := List.replicate i blC ++ List.replicate (n - i) (0, 0)
theorem rpL_len {n i : Nat} (h : i ≤ n) : (rpL n i).length = n := by unfold rpL; rw [List.length_append, List.length_replicate, List.length_replicate]; omega
theorem rpL_get (n i j : Nat) : (rpL n i).getD j blC = if j < i then blC else if j < n then (0, 0) else blC := by
 unfold rpL
 rw [List.getD_eq_getElem?_getD]
 by_cases h : j < i
 ·rw [if_pos h, List.getElem?_append_left (by rw [List.length_replicate]; exact h), List.getElem?_replicate, if_pos h]
  rfl
 ·rw [if_neg h, List.getElem?_append_right (by rw [List.length_replicate]; omega), List.length_replicate, List.getElem?_replicate]
  by_cases h2 : j < n
  ·rw [if_pos h2, if_pos (by omega)]
   rfl
  ·rw [if_neg h2, if_neg (by omega)]
   rfl
theorem rpL_next {n i q : Nat} (h : i + q ≤ n) : splice (rpL n i) i (List.replicate q blC) = rpL n (i + q) := by
 refine ext_getD (by rw [splice_len (by rw [List.length_replicate, rpL_len (by omega)]; exact h), rpL_len (by omega), rpL_len h]) fun j hj => ?_
 rw [splice_getD _ _ _ _ (by rw [List.length_replicate, rpL_len (by omega)]; exact h), rpL_get, rpL_get, getD_replicate, List.length_replicate]
 by_cases h1 : i ≤ j ∧ j < i + q
 ·rw [if_pos h1, if_pos (by omega)]
 ·rw [if_neg h1]
  by_cases h2 : j < i
  ·rw [if_pos h2, if_pos (by omega)]
  ·rw [if_neg h2, if_neg (show ¬ j < i + q by omega)]
theorem rpL_src {n i q : Nat} (h : q ≤ i) : ((rpL n i).drop 0).take q = List.replicate q blC := by
 unfold rpL
 rw [List.drop_zero, List.take_append_of_le_length (by rw [List.length_replicate]; exact h), List.take_replicate, Nat.min_eq_left h]
theorem rpL_all (n : Nat) : rpL n n = List.replicate n blC := by
 unfold rpL
 rw [Nat.sub_self]
 exact List.append_nil _
theorem ceR_zero (n : Nat) : rowOf [.int .i64 0, .int .i64 0] (n * 2) = ceR (rpL n 0) := by
 have h1 : ∀ k : Nat, ceR (List.replicate k (0, 0)) = List.replicate (k * 2) (.int .i64 0) := by
  intro k
  induction k with
  | zero => rfl
  | succ k ih => rw [List.replicate_succ, ceR_cons, ih, show (k + 1) * 2 = k * 2 + 1 + 1 by omega, List.replicate_succ, List.replicate_succ]
 show _ = ceR (List.replicate (n - 0) (0, 0))
 rw [Nat.sub_zero, h1]
 refine List.ext_getElem ?_ fun i h2 h3 => ?_
 ·simp [rowOf, madeCells]
 ·rw [List.getElem_replicate]
  simp only [rowOf, madeCells, Array.getElem_toList, Array.getElem_map, Array.getElem_range]
  rcases Nat.mod_two_eq_zero_or_one i with h | h
  ·simp [h]
  ·simp [h]
set_option maxHeartbeats 1000000 in
theorem repeat_W (n : Nat) (v : Value) (w : World) {Z : Nat → Prop} (hZ : ∀ j, w.heap.size ≤ j → Z j) (hv : SlC (At w) 2 v 1 (ceR [blC])) (h1 : 1 ≤ n) (h2 : n ≤ 4096) :
  Wm tb 62 [v, .int .i64 n] w Z [] (RpR n) := by
 obtain ⟨base, cap, rfl, hcap⟩ := slc_sl hv
 have hml := fun w => mul_any n h2 w
 have hs3 := small64n h2
 have hw64 : IntKind.i64.wrap (n : Int) = n := wrap_i64 (by omega) (by omega)
 have hn0 := ceR_zero n
 have hle0 := rpL_len (Nat.zero_le n)
 refine wm_of (fn := Try.f62) Try.func62 rfl Try.ntmps62 rfl trivial hZ (by intro b hb; cases hb) rpR_mono (fun on => ?_)
 repeat refine s_seqs ?_
 refine s_reg ?_
 refine qa rfl rfl ?_
 refine Vc.step_end (fun a w ok => ?_)
 first | (refine WPs.run ?_ a w ok; clear ok w a) | skip
 repeat refine s_seqs ?_
 refine s_reg ?_
 refine qm rfl rfl ?_
 refine step_pure rfl (pure_lss rfl rfl) ?_
 refine Vc.step_end (fun a w ok => ?_)
 first | (refine WPs.run ?_ a w ok; clear ok w a) | skip
 repeat refine s_seqs ?_
 refine s_cond_no rfl (decide_eq_false (by omega)) ?_
 refine s_skip fun a w ok => WPs.run ?_ a w ok
 clear ok w a
 repeat refine s_seqs ?_
 refine s_reg ?_
 refine qm rfl rfl ?_
 refine step_pure rfl (pure_len_slice rfl rfl rfl) ?_
 refine step_as rfl (pure_conv rfl rfl rfl rfl) (show _ = Value.int .u64 1 from congrArg (Value.int .u64) (by decide)) ?_
 refine qm rfl rfl ?_
 refine step_as rfl (pure_conv rfl rfl rfl rfl) (show _ = Value.int .u64 n from congrArg (Value.int .u64) hs3) ?_
 refine step_gives rfl fun86 rfl (fun w _ _ => hml w) ?_
 refine qm rfl rfl ?_
 refine qx rfl rfl rfl ?_
 refine qx rfl rfl rfl ?_
 refine qa rfl rfl ?_
 refine qa rfl rfl ?_
 refine Vc.step_end (fun a w ok => ?_)
 first | (refine WPs.run ?_ a w ok; clear ok w a) | skip
 repeat refine s_seqs ?_
 refine s_reg ?_
 refine qm rfl rfl ?_
 refine step_as rfl (pure_gtr rfl rfl) (show _ = Value.bool false from congrArg Value.bool (by decide)) ?_
 refine qm rfl rfl ?_
 first | refine qm rfl rfl ?_ | refine qp rfl rfl rfl ?_
 first | refine step_as rfl (pure_gtr rfl rfl) (show _ = Value.bool false from congrArg Value.bool (decide_eq_false (by omega))) ?_ | refine qp rfl rfl rfl ?_
 first | refine step_pure rfl (pure_pick_yes rfl rfl) ?_ | refine step_pure rfl (pure_pick_no rfl rfl) ?_ | refine step_pure rfl (pure_pick_bool rfl rfl rfl) ?_
 refine Vc.step_end (fun a w ok => ?_)
 first | (refine WPs.run ?_ a w ok; clear ok w a) | skip
 repeat refine s_seqs ?_
 refine s_cond_no rfl rfl ?_
 refine s_skip fun a w ok => WPs.run ?_ a w ok
 clear ok w a
 repeat refine s_seqs ?_
 refine s_reg ?_
 refine qm rfl rfl ?_
 refine step_as rfl (pure_conv rfl rfl rfl rfl) (show _ = Value.int .i64 n from congrArg (Value.int .i64) hw64) ?_
 refine step_make (l := n) (c := n) rfl rfl rfl rfl rfl elem48 (Nat.le_refl _) (by omega) (by omega) (fun b30 => ?_)
 rw [show rowOf [.int .i64 0, .int .i64 0] (n * uC.size) = ceR (rpL n 0) from hn0]
 refine qa rfl rfl ?_
 refine Vc.step_end (fun a w ok => ?_)
 first | (refine WPs.run ?_ a w ok; clear ok w a) | skip
 repeat refine s_seqs ?_
 refine s_reg ?_
 refine qm rfl rfl ?_
 refine qm rfl rfl ?_
 refine step_eff rfl rfl (eff_copy (i := 0) (q := 1) (news := ceR [blC]) rfl rfl rfl rfl rfl rfl rfl rfl (by show Nat.min 1 n = _; exact Nat.min_eq_left h1) rfl (src_slc (fun w' hh kp => hv.mono (at_keep kp))) (ceR_one _) (by show 0 + 2 ≤ (ceR (rpL n 0)).length; rw [ceR_len, hle0]; omega) (by intro h0; have := congrArg List.length h0; rw [ceR_len, hle0] at this; simp only [List.length_nil] at this; omega)) ?_
 rintro v m' ⟨rfl, rfl⟩
 rw [show setAt [(⟨b30, ceR (rpL n 0), tC⟩ : Ent)] 0 (splice (ceR (rpL n 0)) 0 (ceR [blC])) = [⟨b30, ceR (rpL n 1), tC⟩] from by rw [ceR_splice (rpL n 0) [blC] 0, show splice (rpL n 0) 0 [blC] = rpL n 1 from rpL_next (i := 0) (q := 1) (by omega)]; rfl]
 refine qa rfl rfl ?_
 refine Vc.step_end (fun a w ok => ?_)
 first | (refine WPs.run ?_ a w ok; clear ok w a) | skip
 repeat refine s_seqs ?_
 refine s_block ?_
 repeat refine s_seqs ?_
 refine s_loopP (α := Nat) (fun i => [(7, .slice (some ⟨b30, 0, none⟩) n n), (8, .int .i64 i)]) (fun i => [⟨b30, ceR (rpL n i), tC⟩])
  (fun i E => 1 ≤ i ∧ i ≤ n) (fun i => n - i) 1 ⟨Nat.le_refl _, h1⟩ (less_of ⟨rfl, rfl, trivial⟩ rfl) ?_
 rintro i E1 ⟨hi1, hi⟩ g
 replace on := on.next g
 clear g
 repeat refine s_seqs ?_
 refine s_reg ?_
 refine qm rfl rfl ?_
 refine qm rfl rfl ?_
 refine step_pure rfl (pure_len_slice rfl rfl rfl) ?_
 refine step_pure rfl (pure_lss rfl rfl) ?_
 refine Vc.step_end (fun a w ok => ?_)
 first | (refine WPs.run ?_ a w ok; clear ok w a) | skip
 repeat refine s_seqs ?_
 refine s_cond rfl (fun h => ?_) (fun h => ?_)
 ·have hlt : i < n := by have := of_decide_eq_true h; omega
  clear h
  refine s_skip fun a w ok => WPs.run ?_ a w ok
  clear ok w a
  have hll := rpL_len hi
  obtain ⟨q, hq⟩ : ∃ q, q = Nat.min i (n - i) := ⟨_, rfl⟩
  have hq1 : q ≤ i := by rw [hq]; exact Nat.min_le_left ..
  have hq2 : q ≤ n - i := by rw [hq]; exact Nat.min_le_right ..
  have hq0 : 1 ≤ q := by rw [hq]; exact Nat.le_min.2 ⟨hi1, by omega⟩
  have hnx := rpL_next (n := n) (i := i) (q := q) (by omega)
  have hpl : Plc (rpL n i) (i * 2) i q := ⟨fun _ => rfl, Nat.le_refl _, by omega⟩
  have hsp := plc_wr (x := List.replicate q blC) (tl := []) hpl (List.length_replicate ..)
  rw [hnx, List.append_nil, List.append_nil] at hsp
  have hsrc := src_part (B := tb) (E := E1) (m := [⟨b30, ceR (rpL n i) ++ [], tC⟩]) hq1 (fun w' hh kp => plc_slc (j := 0) (off := 0) (o := 0) (k := i) (cap := n) hh rfl ⟨fun _ => rfl, Nat.le_refl _, by omega⟩ hi)
  rw [List.append_nil, rpL_src (Nat.le_refl i), ceR_take, List.take_replicate, Nat.min_eq_left hq1] at hsrc
  have hcl : (ceR (rpL n i)).length = n * 2 := by rw [ceR_len, hll]
  have hol := ceR_one (List.replicate q blC)
  have hrl : (ceR (List.replicate q blC)).length = q * 2 := by rw [ceR_len, List.length_replicate]
  generalize ceR (List.replicate q blC) = nw at *
  repeat refine s_seqs ?_
  refine s_block ?_
  repeat refine s_seqs ?_
  refine s_dreg [1, 9, 17, 25, 33, 41, 49, 60, 65, 73] [] follows (by kernel_rfl) ?_
  refine qd rfl rfl rfl rfl ?_
  refine qd rfl rfl rfl rfl ?_
  refine qd rfl rfl rfl rfl ?_
  refine d_as0 rfl rfl rfl (pure_sub_lo rfl rfl rfl rfl rfl (by omega) (by omega)) (show subS (some ⟨b30, 0, none⟩) n 2 (i : Int).toNat n = Value.slice (some ⟨b30, i * 2, none⟩) (n - i) (n - i) from by rw [Int.toNat_natCast]; unfold subS; rw [if_neg (by omega)]; exact congrArg (fun a => Value.slice (some a) _ _) ((add_none ..).trans (by rw [Nat.zero_add]))) ?_
  refine qd rfl rfl rfl rfl ?_
  refine qd rfl rfl rfl rfl ?_
  refine d_as0 rfl rfl rfl (pure_sub_hi rfl rfl rfl rfl rfl (by omega) (by omega)) (show subS (some ⟨b30, 0, none⟩) n 2 0 (i : Int).toNat = Value.slice (some ⟨b30, 0, none⟩) i n from by rw [Int.toNat_natCast]; unfold subS; rw [if_neg (by omega)]; rfl) ?_
  refine d_only rfl rfl rfl rfl (eff_copy (i := 0) (q := q) (news := nw) rfl rfl rfl rfl rfl rfl rfl rfl hq.symm hrl hsrc hol (by show i * 2 + nw.length ≤ (ceR (rpL n i)).length; omega) (by intro h0; have := congrArg List.length h0; rw [hcl] at this; simp only [List.length_nil] at this; omega)) ?_ rfl
  rintro v m' ⟨rfl, rfl⟩
  refine ⟨fun h => (by cases h), ?_⟩
  first | refine d_pure0 rfl rfl rfl (pure_add64 rfl rfl (by omega) (by omega)) ?_ | refine d_pure0 rfl rfl rfl (pure_add rfl rfl) ?_
  refine d_pure0 rfl rfl rfl (pure_assign rfl) ?_
  refine d_end (fun a w ok => ?_)
  refine ⟨i + q, _, ⟨by omega, by omega⟩, by omega, Gt.refl _, Less.ok ?_ ok⟩
  exact less_of ⟨rfl, by rw [Int.natCast_add]; rfl, trivial⟩ (by rw [hsp]; rfl)
 ·have hie : i = n := by have := of_decide_eq_false h; omega
  subst hie
  refine s_exit fun a w ok => WPs.run ?_ a w ok
  clear ok w a
  repeat refine s_seqs ?_
  refine s_reg ?_
  refine qm rfl rfl ?_
  refine qa rfl rfl ?_
  refine Vc.step_end (fun a w ok => ?_)
  first | (refine WPs.run ?_ a w ok; clear ok w a) | skip
  exact s_ret fun a w ok => ends_wm on (.inr rfl) ok (res_tmp Try.results62 rfl) (m1 := [_]) (mr := []) (List.Perm.refl _) rpR_mono ⟨b30, rfl, by rw [rpL_all]⟩
end Go.Proofs.Ytadginombcjbeaa
/- A new screen; cells of another size: walked. -/
namespace Go.Proofs.Ytadginombcjbeaa
open Go.RowKit Go.Vc
set_option linter.unusedVariables false
theorem res_cell_tmp {B : Tb} {rs : Rs} {m : Mem} {fn : Func} {t u : Tmp} {T : TypeId} {b off i : Nat} {e : Ent} {d : Ty} {vs : List Value} {x : Value} (h : fn.results = #[.cell t T, .tmp u])
  (hx : Vc.look rs t = some (.pointer (some ⟨b, off, none⟩))) (hT : B.ty T = some d) (hd : d.agg = true) (he : nth m i = some e) (hb : e.blk = b)
  (hl : off + d.size ≤ e.cells.length) (hv : (e.cells.drop off).take d.size = vs) (hu : Vc.look rs u = some x) : ResIs B fn rs m (.tuple #[.agg vs.toArray, x]) := by
 refine ⟨fun a w hr hh => ?_⟩
 have h1 := hr t _ hx
 have h2 := hr u _ hu
 have hc := hh.cell (nth_mem he)
 rw [hb] at hc
 subst hv
 simp [results, h, Array.getD_eq_getD_getElem?, h1, h2, asAddr, loadVar, ty_agg hT, hd, ty_size hT, run_loadCells0 hc _ hl]
theorem fill_ce (c : Ce) : fillL (fun i => some (i * uC.size, uC.size)) (rowOf [.int .i64 0, .int .i64 0] (1 * uC.size)) [(0, .agg [Value.int .i64 c.1, .int .i64 c.2].toArray)] = some (ceR [c]) := by
 rw [show 1 * uC.size = 1 * 2 from rfl, ceR_zero 1]
 rfl
theorem slc_none {C : Addr → Value → Prop} : SlC C 2 (.slice none 0 0) 0 [] := ⟨none, 0, rfl, Nat.le_refl _, rfl, fun h => absurd rfl h⟩
theorem zSc_v {C : Addr → Value → Prop} : ScV C zScr (scC zScr (.slice none 0 0) (.slice none 0 0)) := ⟨_, _, rfl, slc_none, slc_none⟩
def NwR (w h : Int) (u : Value) (C : Addr → Value → Prop) : Prop := ∃ cs, u = .tuple #[.agg cs.toArray, .int .i64 (if (side w && side h) = true then 0 else 170)] ∧ ScV C (newS w h) cs
theorem nwR_mono {w h : Int} : ∀ v (C C' : Addr → Value → Prop), (∀ p x, C p x → C' p x) → NwR w h v C → NwR w h v C' := by
 rintro v C C' hC ⟨cs, rfl, h⟩
 exact ⟨cs, rfl, h.mono hC⟩
set_option maxHeartbeats 1000000 in
theorem new_P (W H : Int) (w : World) {Z : Nat → Prop} (hZ : ∀ j, w.heap.size ≤ j → Z j) : GivesP tb 31 [.int .i64 W, .int .i64 H] w Z (NwR W H) := by
 have hwi : ∀ n w, Gives tb 16 [.int .i64 n, .int .i64 1, .int .i64 64] w (.bool (side n)) := fun n w => within_any n 1 64 w
 refine givesP_of (fn := Try.f31) Try.func31 rfl Try.ntmps31 rfl hZ nwR_mono (fun on => ?_)
 repeat refine s_seqs ?_
 refine s_reg ?_
 refine step_alloc rfl zero32 (fun b4 => ?_)
 refine qa rfl rfl ?_
 refine Vc.step_end (fun a w ok => ?_)
 first | (refine WPs.run ?_ a w ok; clear ok w a) | skip
 repeat refine s_seqs ?_
 refine s_meet [(0, .int .i64 W), (1, .int .i64 H), (4, .pointer (some ⟨b4, 0, none⟩)), (13, .bool (!(side W && side H)))] [⟨b4, scC zScr (.slice none 0 0) (.slice none 0 0), tSc⟩] ?_ (fun a w ok => WPs.run ?_ a w ok)
 ·repeat refine c_seq ?_
  refine c_region ?_
  refine qm rfl rfl ?_
  refine step_gives rfl fun16 rfl (fun w _ _ => hwi _ w) ?_
  refine step_pure rfl (pure_not rfl) ?_
  refine qm rfl rfl ?_
  refine step_split (t := 9) rfl (fun h9 => ?_) (fun h9 => ?_)
  ·refine qp rfl rfl rfl ?_
   refine qp rfl rfl rfl ?_
   refine qp rfl rfl rfl ?_
   refine step_pure rfl (pure_pick_yes rfl rfl) ?_
   refine step_nil ?_
   refine less_of ⟨rfl, rfl, rfl, ?_, trivial⟩ rfl
   refine congrArg some (congrArg Value.bool ?_)
   simp_all
  ·refine qm rfl rfl ?_
   refine step_gives rfl fun16 rfl (fun w _ _ => hwi _ w) ?_
   refine step_pure rfl (pure_not rfl) ?_
   refine step_pure rfl (pure_pick_no rfl rfl) ?_
   refine step_nil ?_
   refine less_of ⟨rfl, rfl, rfl, ?_, trivial⟩ rfl
   refine congrArg some (congrArg Value.bool ?_)
   simp_all
 cases hsd : (side W && side H) with
 | false =>
  repeat refine s_seqs ?_
  refine s_cond_yes rfl rfl ?_
  repeat refine s_seqs ?_
  refine s_reg ?_
  refine step_pure rfl (pure_build_struct (pl := [(0, 1), (1, 1), (2, 1), (3, 1), (4, 1), (5, 1), (6, 1), (7, 1), (8, 1), (9, 1), (10, 1), (11, 1), (12, 3), (15, 1)]) rfl zero32 rfl rfl rfl rfl) ?_
  refine step_store_agg 0 rfl rfl rfl (of_one rfl) rfl rfl rfl rfl (Nat.le_of_ble_eq_true rfl) (show _ = scC zScr (.slice none 0 0) (.slice none 0 0) from rfl) ?_
  refine qa rfl rfl ?_
  refine Vc.step_end (fun a w ok => ?_)
  first | (refine WPs.run ?_ a w ok; clear ok w a) | skip
  exact s_ret fun a w ok => ends_givesP on (.inr rfl) ok (res_cell_tmp (i := 0) Try.results31 rfl rfl rfl rfl rfl (Nat.le_of_ble_eq_true rfl) rfl rfl) nwR_mono ⟨_, by rw [hsd]; rfl, by unfold newS; rw [hsd]; exact zSc_v⟩
 | true =>
  repeat refine s_seqs ?_
  refine s_cond_no rfl rfl ?_
  refine s_skip fun a w ok => WPs.run ?_ a w ok
  clear ok w a
  obtain ⟨h1, h2⟩ := Bool.and_eq_true_iff.1 hsd
  have h1 := side_in h1
  have h2 := side_in h2
  have hm := mulIn (x := W) (y := H) (by omega) (by omega)
  have hnn : 1 ≤ W * H := by have := Int.mul_le_mul h1.1 h2.1 (by omega) (by omega); omega
  obtain ⟨n, hn⟩ : ∃ n : Nat, W * H = n := ⟨(W * H).toNat, by omega⟩
  repeat refine s_seqs ?_
  refine s_reg ?_
  refine qm rfl rfl ?_
  refine qm rfl rfl ?_
  refine step_gives rfl fun63 rfl (fun w _ _ => empty_any w) ?_
  refine step_buildSlice rfl rfl rfl rfl elem48 (by decide) (by decide) (fill_ce blC) (fun b18 => ?_)
  refine l_let 0 rfl (fun E2 g hc => ?_)
  have hv2 := slis_cz (sl_built uC tC b18 (ceR [blC]) 1 rfl) (hc _ on.sc)
  replace on := on.next g
  clear g hc
  refine qm rfl rfl ?_
  refine qm rfl rfl ?_
  refine step_as rfl (pure_mul rfl rfl) (show _ = Value.int .i64 (n : Int) from congrArg (Value.int .i64) (by rw [← hn]; exact wrap_i64 (by omega) (by omega))) ?_
  refine step_wm [] _ on.sc rfl fun62 rfl (List.Perm.refl _) (fun w' Z' hh kp h0 hZ hZ0 hC => repeat_W n _ w' hZ (hv2.mono (Cz.now kp)) (by omega) (by omega)) ?_
  rintro u m1 E3 g ⟨b22, rfl, rfl⟩
  replace on := on.next g
  clear g hv2
  refine l_let 0 rfl (fun E4 g hc => ?_)
  have hv2 := slis_cz (sl_built uC tC b22 (ceR (List.replicate n blC)) n (by rw [ceR_len, List.length_replicate]; rfl)) (hc _ on.sc)
  replace on := on.next g
  clear g hc
  refine qm rfl rfl ?_
  refine step_pure rfl (pure_sub64 rfl rfl (by omega) (by omega)) ?_
  refine step_pure rfl (pure_build_struct (pl := [(0, 1), (1, 1), (2, 1), (3, 1), (4, 1), (5, 1), (6, 1), (7, 1), (8, 1), (9, 1), (10, 1), (11, 1), (12, 3), (15, 1)]) rfl zero32 rfl rfl rfl rfl) ?_
  refine step_store_agg 0 rfl rfl rfl (of_one rfl) rfl rfl rfl rfl (Nat.le_of_ble_eq_true rfl) (show _ = scC (newS W H) (.slice (some ⟨b22, 0, none⟩) n n) (.slice none 0 0) from by unfold newS; rw [hsd]; rfl) ?_
  refine qa rfl rfl ?_
  refine Vc.step_end (fun a w ok => ?_)
  first | (refine WPs.run ?_ a w ok; clear ok w a) | skip
  exact s_ret fun a w ok => ends_givesP on (.inr rfl) ok (res_cell_tmp (i := 0) Try.results31 rfl rfl rfl rfl rfl (Nat.le_of_ble_eq_true rfl) rfl rfl) nwR_mono ⟨_, by rw [hsd]; rfl, _, _, rfl, by unfold newS; rw [hsd, if_pos rfl, hn, Int.toNat_natCast, List.length_replicate]; exact hv2, by unfold newS; rw [hsd]; exact slc_none⟩
end Go.Proofs.Ytadginombcjbeaa
/- Cells of another size: walked. -/
namespace Go.Proofs.Ytadginombcjbeaa
open Go.RowKit Go.Vc
set_option linter.unusedVariables false
def szL (l : List Ce) (was w n y : Nat) : List Ce := (List.range n).map fun i => if i % w < was ∧ i / w < y then l.getD (i / w * was + i % w) blC else blC
theorem szL_len (l : List Ce) (was w n y : Nat) : (szL l was w n y).length = n := by unfold szL; rw [List.length_map, List.length_range]
theorem szL_get (l : List Ce) (was w n y i : Nat) (h : i < n) : (szL l was w n y).getD i blC = if i % w < was ∧ i / w < y then l.getD (i / w * was + i % w) blC else blC := by
 unfold szL
 rw [List.getD_eq_getElem?_getD, List.getElem?_map, List.getElem?_range h]
 rfl
theorem szL_zero (l : List Ce) (was w n : Nat) : szL l was w n 0 = List.replicate n blC := by
 refine ext_getD (by rw [szL_len, List.length_replicate]) fun i hi => ?_
 rw [szL_len] at hi
 rw [szL_get _ _ _ _ _ _ hi, if_neg (by rintro ⟨_, h⟩; exact Nat.not_lt_zero _ h), getD_replicate]
theorem szL_end (l : List Ce) (was had w h : Nat) : szL l was w (w * h) (min had h) = sizedL l was had w h := by
 refine ext_getD (by rw [szL_len, sizedL_len]) fun i hi => ?_
 rw [szL_len] at hi
 rw [szL_get _ _ _ _ _ _ hi, sizedL_get _ _ _ _ _ _ hi]
 have hw : 0 < w := by
  rcases Nat.eq_zero_or_pos w with h0 | h0
  ·subst h0; omega
  ·exact h0
 have h1 : i / w < h := by rw [Nat.div_lt_iff_lt_mul hw, Nat.mul_comm]; exact hi
 by_cases h2 : i % w < was ∧ i / w < had
 ·rw [if_pos h2, if_pos ⟨h2.1, by omega⟩]
 ·rw [if_neg h2, if_neg (by omega)]
theorem szL_next {l : List Ce} {was had w h y q : Nat} (hl : l.length = was * had) (hy : y < had) (hyh : y < h) (hw : 0 < w) (hq : q = Nat.min was w) :
  splice (szL l was w (w * h) y) (y * w) ((l.drop (y * was)).take q) = szL l was w (w * h) (y + 1) := by
 have hq1 : q ≤ was := by rw [hq]; exact Nat.min_le_left ..
 have hq2 : q ≤ w := by rw [hq]; exact Nat.min_le_right ..
 have h1 : (y + 1) * was ≤ was * had := by rw [Nat.mul_comm was had]; exact Nat.mul_le_mul_right _ hy
 have h2 : (y + 1) * w ≤ w * h := by rw [Nat.mul_comm w h]; exact Nat.mul_le_mul_right _ hyh
 rw [Nat.add_mul, Nat.one_mul] at h1 h2
 have hsl : ((l.drop (y * was)).take q).length = q := by rw [List.length_take, List.length_drop]; omega
 refine ext_getD (by rw [splice_len (by rw [hsl, szL_len]; omega), szL_len, szL_len]) fun i hi => ?_
 rw [splice_len (by rw [hsl, szL_len]; omega), szL_len] at hi
 rw [splice_getD _ _ _ _ (by rw [hsl, szL_len]; omega), hsl, szL_get _ _ _ _ _ _ hi, szL_get _ _ _ _ _ _ hi]
 have hmod := Nat.mod_lt i hw
 have hdiv := Nat.div_add_mod i w
 by_cases h3 : y * w ≤ i ∧ i < y * w + q
 ·rw [if_pos h3, sub_get _ _ _ _ (by omega)]
  have hd : i / w = y := by
   refine (Nat.div_eq_iff hw).2 ⟨h3.1, ?_⟩
   omega
  rw [hd, Nat.mul_comm w y] at hdiv
  rw [hd, if_pos ⟨by omega, by omega⟩]
  congr 1
  omega
 ·rw [if_neg h3]
  by_cases h4 : i % w < was ∧ i / w < y
  ·rw [if_pos h4, if_pos ⟨h4.1, by omega⟩]
  ·rw [if_neg h4]
   by_cases h5 : i % w < was ∧ i / w < y + 1
   ·have hd : i / w = y := by omega
    rw [hd, Nat.mul_comm w y] at hdiv
    have hqm : i % w < q := by rw [hq]; exact Nat.lt_min.2 ⟨h5.1, hmod⟩
    omega
   ·rw [if_neg h5]
def OwR (l : List Ce) (u : Value) (m1 : Mem) (C : Addr → Value → Prop) : Prop := ∃ b, u = .slice (some ⟨b, 0, none⟩) l.length l.length ∧ m1 = [⟨b, ceR l, tC⟩]
theorem owR_mono {l : List Ce} : ∀ v m1 (C C' : Addr → Value → Prop), (∀ p x, C p x → C' p x) → OwR l v m1 C → OwR l v m1 C' := fun _ _ _ _ _ h => h
end Go.Proofs.Ytadginombcjbeaa
/- The closure of Resize: walked. -/
namespace Go.Proofs.Ytadginombcjbeaa
open Go.RowKit Go.Vc
set_option linter.unusedVariables false
/-- A block is let go where a way ends. -/
theorem ok_let {E : Env} {n : Nat} {rs : Rs} {m m2 : Mem} {a : Act} {w : World} (m1 : Mem) (hp : m2.Perm (m1 ++ m)) (ok : Ok E n rs m2 a w) :
  ∃ E', Gt E E' ∧ (∀ Z, Sc Z E → ∀ e ∈ m1, ∀ j x, e.cells[j]? = some x → Cz Z E' ⟨e.blk, j, none⟩ x) ∧ Ok E' n rs m a w := by
 have ok' : Ok E n rs (m1 ++ m) a w := ⟨ok.size, ok.defers, ok.regs, ok.has.perm hp, ok.own.perm hp, ok.keep⟩
 have hs : m.Sublist (m1 ++ m) := List.sublist_append_right ..
 exact ⟨_, at_gt (ok'.own.sublist hs) ok.keep, fun Z hz e he j x hj => cz_at hz ok' he hj, at_ok ok' hs⟩
def DoR (bs : Nat) (s : Scr) (u : Value) (m1 : Mem) (C : Addr → Value → Prop) : Prop :=
 u = .tuple #[] ∧ ∃ base cap v2 e, m1 = [⟨bs, scC s (.slice base s.cells.length cap) v2, tSc⟩, e] ∧ SlIs uC tC e base s.cells.length cap (ceR s.cells) ∧ SlC C 2 v2 s.main.length (ceR s.main)
theorem doR_mono {bs : Nat} {s : Scr} : ∀ v m1 (C C' : Addr → Value → Prop), (∀ p x, C p x → C' p x) → DoR bs s v m1 C → DoR bs s v m1 C' := by
 rintro v m1 C C' hC ⟨rfl, base, cap, v2, e, rfl, h1, h2⟩
 exact ⟨rfl, base, cap, v2, e, rfl, h1, h2.mono hC⟩
theorem sl_cells (l : List Ce) (tl : List Value) (bc cap : Nat) (h : (ceR l ++ tl).length = cap * 2) : SlIs uC tC ⟨bc, ceR l ++ tl, tC⟩ (some ⟨bc, 0, none⟩) l.length cap (ceR l) := by
 have hl := ceR_len l
 rw [List.length_append] at h
 refine ⟨by show (ceR l ++ tl).length = cap * 2; rw [List.length_append]; exact h, by omega, fun _ => ⟨rfl, rfl⟩, ?_⟩
 show (ceR l ++ tl).take (l.length * 2) = ceR l
 rw [← hl]
 exact List.take_left' rfl
end Go.Proofs.Ytadginombcjbeaa
