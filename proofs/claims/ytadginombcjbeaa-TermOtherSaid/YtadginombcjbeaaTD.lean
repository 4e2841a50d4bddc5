/- A sequence's runes: walked. -/
import Derived.Test.YtadginombcjbeaaTC
namespace Go.Proofs.Ytadginombcjbeaa
open Go.RowKit Go.Vc
set_option linter.unusedVariables false
theorem ints_get {l : List Int} {k : Nat} (h : k < l.length) : (ints .i64 l)[k]? = some (.int .i64 (l.getD k 0)) := by
 unfold ints
 rw [List.getElem?_map, List.getElem?_eq_getElem h, List.getD_eq_getElem?_getD, List.getElem?_eq_getElem h]
 rfl
theorem pa_get {m : Pa} (h : m.act.many.toNat < m.act.ps.length) : (paC m)[5 + m.act.many.toNat]? = some (.int .i64 (esAt m)) := by
 rw [Nat.add_comm]
 exact ints_get h
theorem ints_set (l : List Int) (k : Nat) (x : Int) : (ints .i64 l).set k (.int .i64 x) = ints .i64 (l.set k x) := by
 unfold ints
 rw [List.map_set]
theorem pa_set (m : Pa) (k : Nat) (x : Int) : (paC m).set (5 + k) (.int .i64 x) = paC { m with act := { m.act with ps := m.act.ps.set k x } } := by
 rw [Nat.add_comm]
 show _ :: _ :: _ :: _ :: _ :: (ints .i64 m.act.ps).set k (.int .i64 x) = _
 rw [ints_set]
 rfl
set_option maxHeartbeats 2000000 in
theorem csi_any (m : Pa) (n : Int) (w : World) (h : Ac8 m.act) (ok : PaOk m) : Gives tb 72 [.agg (paC m).toArray, .int .i64 n] w (esV (esCsi m n)) := by
 refine gives_of (fn := Try.f72) Try.func72 rfl Try.ntmps72 rfl ?_
 have h8 : m.act.ps.length = 8 := h
 obtain ⟨hm1, hm2⟩ := ok.many
 have hml : m.act.many.toNat < m.act.ps.length := by omega
 have hget := pa_get hml
 have hat : 0 ≤ esAt m ∧ esAt m ≤ 9999 := by
  unfold esAt
  rw [List.getD_eq_getElem?_getD, List.getElem?_eq_getElem hml]
  exact ok.ps _ (List.getElem_mem hml)
 unfold esCsi
 repeat refine c_seq ?_
 refine c_region ?_
 refine step_box_agg rfl rfl (fun b2 => ?_)
 refine step_alloc rfl zero28 (fun b4 => ?_)
 refine step_alloc rfl zero26 (fun b5 => ?_)
 refine qa rfl rfl ?_
 refine step_nil ?_
 repeat refine c_seq ?_
 refine c_region ?_
 refine step_pure rfl (pure_fieldAddr rfl rfl rfl rfl rfl (by decide)) ?_
 refine step_pure rfl (pure_fieldAddr rfl rfl rfl rfl rfl (by decide)) ?_
 refine qa rfl rfl ?_
 refine step_nil ?_
 repeat refine c_seq ?_
 refine d_region2 [1, 9, 17, 25, 35, 41, 49, 57, 65] ([⟨b2, paC m, 94⟩]) follows (by kernel_rfl) ?_
 refine qd rfl rfl rfl rfl ?_
 refine qd rfl rfl rfl rfl ?_
 refine d_pure0 rfl rfl rfl (pure_nilCheck rfl) ?_
 refine d_pure0 rfl rfl rfl (pure_fieldAddr rfl rfl rfl rfl rfl (by decide)) ?_
 refine d_pure1 rfl rfl rfl (pure_load (i := 0) rfl rfl rfl rfl rfl rfl) (by first | exact SubMem.refl _ | exact (SubMem.refl _).cons | exact (SubMem.refl _).cons.cons | exact (SubMem.refl _).cons.cons.cons | exact (SubMem.refl _).cons.cons.cons.cons | exact (fun w hh => Has.sublist (by repeat (first | exact List.Sublist.refl _ | exact List.nil_sublist _ | apply List.Sublist.cons_cons | apply List.Sublist.cons)) hh)) ?_
 refine d_pure0 rfl rfl rfl (pure_nilCheck rfl) ?_
 refine d_pure0 rfl rfl rfl (pure_fieldAddr rfl rfl rfl rfl rfl (by decide)) ?_
 refine d_as0 rfl rfl rfl (pure_ix rfl rfl rfl rfl rfl (by omega) (by omega) rfl) (show _ = Value.pointer (some ⟨b2, 5 + m.act.many.toNat, none⟩) from by rw [Nat.mul_one]) ?_
 refine d_pure0 rfl rfl rfl (pure_assign rfl) ?_
 refine d_nil ?_
 repeat refine c_seq ?_
 refine c_block ?_
 repeat refine c_seq ?_
 refine c_meet [(1, .int .i64 n), (2, .pointer (some ⟨b2, 0, none⟩)), (4, .pointer (some ⟨b4, 0, none⟩)), (5, .pointer (some ⟨b5, 0, none⟩)), (7, .pointer (some ⟨b2, 1, none⟩)), (8, .pointer (some ⟨b2, 5 + m.act.many.toNat, none⟩)), (19, .bool (decide (48 ≤ n ∧ n ≤ 57)))] [⟨b5, acC zAc, tA⟩, ⟨b4, paC zPa, tP⟩, ⟨b2, paC m, 94⟩] ?_ ?_
 ·repeat refine c_seq ?_
  refine c_region ?_
  refine qm rfl rfl ?_
  refine step_pure rfl (pure_geq rfl rfl) ?_
  refine qm rfl rfl ?_
  refine step_split (t := 22) rfl (fun h22 => ?_) (fun h22 => ?_)
  ·refine qm rfl rfl ?_
   refine step_pure rfl (pure_leq rfl rfl) ?_
   refine step_pure rfl (pure_pick_yes rfl rfl) ?_
   refine qa rfl rfl ?_
   refine step_nil ?_
   refine less_of ⟨rfl, rfl, rfl, rfl, rfl, rfl, ?_, trivial⟩ rfl
   refine congrArg some (congrArg Value.bool ?_)
   simp_all
   try first | omega | rfl | (rw [Bool.eq_iff_iff]; simp; done) | (rw [Bool.eq_iff_iff]; simp; omega)
  ·refine qp rfl rfl rfl ?_
   refine qp rfl rfl rfl ?_
   refine step_pure rfl (pure_pick_no rfl rfl) ?_
   refine qa rfl rfl ?_
   refine step_nil ?_
   refine less_of ⟨rfl, rfl, rfl, rfl, rfl, rfl, ?_, trivial⟩ rfl
   refine congrArg some (congrArg Value.bool ?_)
   simp_all
   try first | omega | rfl | (rw [Bool.eq_iff_iff]; simp; done) | (rw [Bool.eq_iff_iff]; simp; omega)
 repeat refine c_seq ?_
 refine c_cond rfl (fun h1 => ?_) (fun h1 => ?_)
 ·have h1 := of_decide_eq_true h1
  rw [if_pos h1]
  repeat refine c_seq ?_
  refine c_region ?_
  refine qm rfl rfl ?_
  refine qm rfl rfl ?_
  refine step_pure rfl (pure_nilCheck rfl) ?_
  refine step_pure rfl (pure_load (i := 2) rfl rfl rfl rfl rfl hget) ?_
  first | refine step_pure rfl (pure_mul64 rfl rfl (by omega) (by omega)) ?_ | refine step_pure rfl (pure_mul rfl rfl) ?_
  refine qm rfl rfl ?_
  first | refine step_pure rfl (pure_add64 rfl rfl (by omega) (by omega)) ?_ | refine step_pure rfl (pure_add rfl rfl) ?_
  first | refine step_pure rfl (pure_sub64 rfl rfl (by omega) (by omega)) ?_ | refine step_pure rfl (pure_sub rfl rfl) ?_
  refine step_pure rfl (pure_min rfl rfl) ?_
  refine step_pure rfl (pure_nilCheck rfl) ?_
  refine step_store 2 rfl rfl rfl rfl rfl rfl rfl rfl (by show 5 + _ < (paC m).length; rw [pa_len h]; omega) (pa_set _ _ _) ?_
  refine step_nil ?_
  have h' : Ac8 { m.act with ps := m.act.ps.set m.act.many.toNat (min (10 * esAt m + n - 48) 9999) } := by show (List.set _ _ _).length = 8; rw [List.length_set]; exact h
  repeat refine c_seq ?_
  refine c_region ?_
  refine step_pure rfl (pure_fieldAddr rfl rfl rfl rfl rfl (by decide)) ?_
  refine step_pure rfl (pure_load_agg (i := 2) (vs := paC _) rfl rfl rfl rfl rfl (pa_le h') (load_all (pa_len h'))) ?_
  refine step_gives rfl fun69 rfl (fun w _ _ => none_any _ w h') ?_
  refine qx rfl rfl rfl ?_
  refine qx rfl rfl rfl ?_
  refine qx rfl rfl rfl ?_
  refine step_store_agg 1 rfl rfl rfl (pa_one _) rfl (pa_len h') rfl rfl (Nat.le_of_ble_eq_true rfl) (splice_all (pa_len h')) ?_
  refine step_store_agg 0 rfl rfl rfl (ac_one zAc) rfl (ac_len zAc8) rfl rfl (Nat.le_of_ble_eq_true rfl) (splice_all (ac_len zAc8)) ?_
  refine qa rfl rfl ?_
  refine step_nil ?_
  exact c_ret ⟨_, res_cell2_tmp (i := 1) (j := 0) Try.results72 rfl rfl rfl rfl rfl (pa_le h') (load_all (pa_len h')) rfl rfl rfl rfl rfl (ac_le zAc8) (load_all (ac_len zAc8)) rfl, rfl⟩
 rw [if_neg (of_decide_eq_false h1)]
 clear h1
 repeat refine c_seq ?_
 refine c_region ?_
 refine qm rfl rfl ?_
 refine step_pure rfl (pure_eql rfl rfl) ?_
 refine qa rfl rfl ?_
 refine step_nil ?_
 repeat refine c_seq ?_
 refine c_cond rfl (fun h2 => ?_) (fun h2 => ?_)
 ·rw [if_pos (beq_iff_eq.1 h2)]
  repeat refine c_seq ?_
  refine c_region ?_
  refine qm rfl rfl ?_
  refine qm rfl rfl ?_
  refine step_pure rfl (pure_nilCheck rfl) ?_
  refine step_pure rfl (pure_fieldAddr rfl rfl rfl rfl rfl (by decide)) ?_
  refine step_pure rfl (pure_load (i := 2) rfl rfl rfl rfl rfl rfl) ?_
  first | refine step_pure rfl (pure_add64 rfl rfl (by omega) (by omega)) ?_ | refine step_pure rfl (pure_add rfl rfl) ?_
  refine step_pure rfl (pure_min rfl rfl) ?_
  refine step_pure rfl (pure_nilCheck rfl) ?_
  refine step_pure rfl (pure_fieldAddr rfl rfl rfl rfl rfl (by decide)) ?_
  refine step_store 2 rfl rfl rfl rfl rfl rfl rfl rfl (by show 4 < (paC m).length; rw [pa_len h]; decide) (show _ = paC { m with act := { m.act with many := min (m.act.many + 1) 7 } } from rfl) ?_
  refine step_nil ?_
  have h' : Ac8 { m.act with many := min (m.act.many + 1) 7 } := h
  repeat refine c_seq ?_
  refine c_region ?_
  refine step_pure rfl (pure_fieldAddr rfl rfl rfl rfl rfl (by decide)) ?_
  refine step_pure rfl (pure_load_agg (i := 2) (vs := paC { m with act := { m.act with many := min (m.act.many + 1) 7 } }) rfl rfl rfl rfl rfl (pa_le h') (load_all (pa_len h'))) ?_
  refine step_gives rfl fun69 rfl (fun w _ _ => none_any { m with act := { m.act with many := min (m.act.many + 1) 7 } } w h') ?_
  refine qx rfl rfl rfl ?_
  refine qx rfl rfl rfl ?_
  refine qx rfl rfl rfl ?_
  refine step_store_agg 1 rfl rfl rfl (pa_one _) rfl (pa_len h') rfl rfl (Nat.le_of_ble_eq_true rfl) (splice_all (pa_len h')) ?_
  refine step_store_agg 0 rfl rfl rfl (ac_one zAc) rfl (ac_len zAc8) rfl rfl (Nat.le_of_ble_eq_true rfl) (splice_all (ac_len zAc8)) ?_
  refine qa rfl rfl ?_
  refine step_nil ?_
  exact c_ret ⟨_, res_cell2_tmp (i := 1) (j := 0) Try.results72 rfl rfl rfl rfl rfl (pa_le h') (load_all (pa_len h')) rfl rfl rfl rfl rfl (ac_le zAc8) (load_all (ac_len zAc8)) rfl, rfl⟩
 rw [if_neg (by intro e; rw [e] at h2; cases h2)]
 clear h2
 repeat refine c_seq ?_
 refine c_meet [(1, .int .i64 n), (2, .pointer (some ⟨b2, 0, none⟩)), (4, .pointer (some ⟨b4, 0, none⟩)), (5, .pointer (some ⟨b5, 0, none⟩)), (7, .pointer (some ⟨b2, 1, none⟩)), (8, .pointer (some ⟨b2, 5 + m.act.many.toNat, none⟩)), (48, .bool (decide (n = 63 ∧ m.act.many = 0 ∧ esAt m = 0)))] [⟨b5, acC zAc, tA⟩, ⟨b4, paC zPa, tP⟩, ⟨b2, paC m, 94⟩] ?_ ?_
 ·repeat refine c_seq ?_
  refine c_region ?_
  refine qm rfl rfl ?_
  refine step_pure rfl (pure_eql rfl rfl) ?_
  refine qm rfl rfl ?_
  refine step_split (t := 51) rfl (fun h51 => ?_) (fun h51 => ?_)
  ·refine qm rfl rfl ?_
   refine step_pure rfl (pure_nilCheck rfl) ?_
   refine step_pure rfl (pure_fieldAddr rfl rfl rfl rfl rfl (by decide)) ?_
   refine step_pure rfl (pure_load (i := 2) rfl rfl rfl rfl rfl rfl) ?_
   refine step_pure rfl (pure_eql rfl rfl) ?_
   refine step_pure rfl (pure_pick_yes rfl rfl) ?_
   refine qm rfl rfl ?_
   refine step_split (t := 58) rfl (fun h58 => ?_) (fun h58 => ?_)
   ·refine qm rfl rfl ?_
    refine step_pure rfl (pure_nilCheck rfl) ?_
    refine step_pure rfl (pure_load (i := 2) rfl rfl rfl rfl rfl hget) ?_
    refine step_pure rfl (pure_eql rfl rfl) ?_
    refine step_pure rfl (pure_pick_yes rfl rfl) ?_
    refine qa rfl rfl ?_
    refine step_nil ?_
    refine less_of ⟨rfl, rfl, rfl, rfl, rfl, rfl, ?_, trivial⟩ rfl
    refine congrArg some (congrArg Value.bool ?_)
    clear hget hat ok
    simp_all
    try first | omega | rfl | (rw [Bool.eq_iff_iff]; simp; done) | (rw [Bool.eq_iff_iff]; simp; omega)
   ·refine qp rfl rfl rfl ?_
    refine qp rfl rfl rfl ?_
    refine qp rfl rfl rfl ?_
    refine qp rfl rfl rfl ?_
    refine step_pure rfl (pure_pick_no rfl rfl) ?_
    refine qa rfl rfl ?_
    refine step_nil ?_
    refine less_of ⟨rfl, rfl, rfl, rfl, rfl, rfl, ?_, trivial⟩ rfl
    refine congrArg some (congrArg Value.bool ?_)
    clear hget hat ok
    simp_all
    try first | omega | rfl | (rw [Bool.eq_iff_iff]; simp; done) | (rw [Bool.eq_iff_iff]; simp; omega)
  ·refine qp rfl rfl rfl ?_
   refine qp rfl rfl rfl ?_
   refine qp rfl rfl rfl ?_
   refine qp rfl rfl rfl ?_
   refine qp rfl rfl rfl ?_
   refine step_pure rfl (pure_pick_no rfl rfl) ?_
   refine qm rfl rfl ?_
   refine qp rfl rfl rfl ?_
   refine qp rfl rfl rfl ?_
   refine qp rfl rfl rfl ?_
   refine qp rfl rfl rfl ?_
   refine step_pure rfl (pure_pick_no rfl rfl) ?_
   refine qa rfl rfl ?_
   refine step_nil ?_
   refine less_of ⟨rfl, rfl, rfl, rfl, rfl, rfl, ?_, trivial⟩ rfl
   refine congrArg some (congrArg Value.bool ?_)
   clear hget hat ok
   simp_all
   try first | omega | rfl | (rw [Bool.eq_iff_iff]; simp; done) | (rw [Bool.eq_iff_iff]; simp; omega)
 repeat refine c_seq ?_
 refine c_cond rfl (fun h3 => ?_) (fun h3 => ?_)
 ·have h3 := of_decide_eq_true h3
  rw [if_pos h3]
  repeat refine c_seq ?_
  refine c_region ?_
  refine qm rfl rfl ?_
  refine step_pure rfl (pure_nilCheck rfl) ?_
  refine step_pure rfl (pure_fieldAddr rfl rfl rfl rfl rfl (by decide)) ?_
  refine step_store 2 rfl rfl rfl rfl rfl rfl rfl rfl (by show 3 < (paC m).length; rw [pa_len h]; decide) (show _ = paC { m with act := { m.act with mark := true } } from rfl) ?_
  refine step_nil ?_
  have h' : Ac8 { m.act with mark := true } := h
  repeat refine c_seq ?_
  refine c_region ?_
  refine step_pure rfl (pure_fieldAddr rfl rfl rfl rfl rfl (by decide)) ?_
  refine step_pure rfl (pure_load_agg (i := 2) (vs := paC { m with act := { m.act with mark := true } }) rfl rfl rfl rfl rfl (pa_le h') (load_all (pa_len h'))) ?_
  refine step_gives rfl fun69 rfl (fun w _ _ => none_any { m with act := { m.act with mark := true } } w h') ?_
  refine qx rfl rfl rfl ?_
  refine qx rfl rfl rfl ?_
  refine qx rfl rfl rfl ?_
  refine step_store_agg 1 rfl rfl rfl (pa_one _) rfl (pa_len h') rfl rfl (Nat.le_of_ble_eq_true rfl) (splice_all (pa_len h')) ?_
  refine step_store_agg 0 rfl rfl rfl (ac_one zAc) rfl (ac_len zAc8) rfl rfl (Nat.le_of_ble_eq_true rfl) (splice_all (ac_len zAc8)) ?_
  refine qa rfl rfl ?_
  refine step_nil ?_
  exact c_ret ⟨_, res_cell2_tmp (i := 1) (j := 0) Try.results72 rfl rfl rfl rfl rfl (pa_le h') (load_all (pa_len h')) rfl rfl rfl rfl rfl (ac_le zAc8) (load_all (ac_len zAc8)) rfl, rfl⟩
 rw [if_neg (of_decide_eq_false h3)]
 clear h3
 repeat refine c_seq ?_
 refine c_meet [(1, .int .i64 n), (2, .pointer (some ⟨b2, 0, none⟩)), (4, .pointer (some ⟨b4, 0, none⟩)), (5, .pointer (some ⟨b5, 0, none⟩)), (7, .pointer (some ⟨b2, 1, none⟩)), (8, .pointer (some ⟨b2, 5 + m.act.many.toNat, none⟩)), (67, .bool (decide (64 ≤ n ∧ n < 127)))] [⟨b5, acC zAc, tA⟩, ⟨b4, paC zPa, tP⟩, ⟨b2, paC m, 94⟩] ?_ ?_
 ·repeat refine c_seq ?_
  refine c_region ?_
  refine qm rfl rfl ?_
  refine step_pure rfl (pure_geq rfl rfl) ?_
  refine qm rfl rfl ?_
  refine step_split (t := 70) rfl (fun h70 => ?_) (fun h70 => ?_)
  ·refine qm rfl rfl ?_
   refine step_pure rfl (pure_lss rfl rfl) ?_
   refine step_pure rfl (pure_pick_yes rfl rfl) ?_
   refine qa rfl rfl ?_
   refine step_nil ?_
   refine less_of ⟨rfl, rfl, rfl, rfl, rfl, rfl, ?_, trivial⟩ rfl
   refine congrArg some (congrArg Value.bool ?_)
   simp_all
   try first | omega | rfl | (rw [Bool.eq_iff_iff]; simp; done) | (rw [Bool.eq_iff_iff]; simp; omega)
  ·refine qp rfl rfl rfl ?_
   refine qp rfl rfl rfl ?_
   refine step_pure rfl (pure_pick_no rfl rfl) ?_
   refine qa rfl rfl ?_
   refine step_nil ?_
   refine less_of ⟨rfl, rfl, rfl, rfl, rfl, rfl, ?_, trivial⟩ rfl
   refine congrArg some (congrArg Value.bool ?_)
   simp_all
   try first | omega | rfl | (rw [Bool.eq_iff_iff]; simp; done) | (rw [Bool.eq_iff_iff]; simp; omega)
 repeat refine c_seq ?_
 refine c_cond rfl (fun h4 => ?_) (fun h4 => ?_)
 ·have h4 := of_decide_eq_true h4
  rw [if_pos h4]
  repeat refine c_seq ?_
  refine c_region ?_
  refine qm rfl rfl ?_
  refine qm rfl rfl ?_
  refine qm rfl rfl ?_
  refine step_pure rfl (pure_nilCheck rfl) ?_
  refine step_pure rfl (pure_fieldAddr rfl rfl rfl rfl rfl (by decide)) ?_
  refine step_store 2 rfl rfl rfl rfl rfl rfl rfl rfl (by show 1 < (paC m).length; rw [pa_len h]; decide) (show _ = paC { m with act := { m.act with kind := 4 } } from rfl) ?_
  refine step_pure rfl (pure_nilCheck rfl) ?_
  refine step_pure rfl (pure_fieldAddr rfl rfl rfl rfl rfl (by decide)) ?_
  refine step_store 2 rfl rfl rfl rfl rfl rfl rfl rfl (by show 2 < (paC m).length; rw [pa_len h]; decide) (show _ = paC { m with act := { m.act with kind := 4, rune := n } } from rfl) ?_
  refine step_nil ?_
  have h' : Ac8 { m.act with kind := 4, rune := n } := h
  repeat refine c_seq ?_
  refine d_region2 [1, 9, 17, 27, 37, 45, 49] ([⟨b2, paC { m with act := { m.act with kind := 4, rune := n } }, 94⟩]) follows (by kernel_rfl) ?_
  refine d_pure0 rfl rfl rfl (pure_build_struct (pl := [(0, 1), (1, 12)]) rfl zero28 rfl rfl rfl rfl) ?_
  refine qd rfl rfl rfl rfl ?_
  refine d_pure0 rfl rfl rfl (pure_nilCheck rfl) ?_
  refine d_pure1 rfl rfl rfl (pure_load_agg (i := 0) (vs := acC { m.act with kind := 4, rune := n }) rfl rfl rfl rfl rfl (Nat.le_of_eq (pa_len (p := { m with act := { m.act with kind := 4, rune := n } }) h').symm) (by show (acC _).take 12 = _; exact List.take_of_length_le (Nat.le_of_eq (ac_len h')))) (by first | exact SubMem.refl _ | exact (SubMem.refl _).cons | exact (SubMem.refl _).cons.cons | exact (SubMem.refl _).cons.cons.cons | exact (SubMem.refl _).cons.cons.cons.cons | exact (fun w hh => Has.sublist (by repeat (first | exact List.Sublist.refl _ | exact List.nil_sublist _ | apply List.Sublist.cons_cons | apply List.Sublist.cons)) hh)) ?_
  refine d_store_agg2 1 rfl rfl rfl rfl rfl (pa_one zPa) rfl (pa_len (p := zPa) zAc8) rfl rfl (Nat.le_of_ble_eq_true rfl) (splice_all (pa_len (p := zPa) zAc8)) rfl (by first | exact SubMem.refl _ | exact (SubMem.refl _).cons | exact (SubMem.refl _).cons.cons | exact (SubMem.refl _).cons.cons.cons | exact (SubMem.refl _).cons.cons.cons.cons | exact (fun w hh => Has.sublist (by repeat (first | exact List.Sublist.refl _ | exact List.nil_sublist _ | apply List.Sublist.cons_cons | apply List.Sublist.cons)) hh)) ?_
  refine d_store_agg2 0 rfl rfl rfl rfl rfl (ac_one _) rfl (ac_len h') rfl rfl (Nat.le_of_ble_eq_true rfl) (splice_all (ac_len h')) rfl (by first | exact SubMem.refl _ | exact (SubMem.refl _).cons | exact (SubMem.refl _).cons.cons | exact (SubMem.refl _).cons.cons.cons | exact (SubMem.refl _).cons.cons.cons.cons | exact (fun w hh => Has.sublist (by repeat (first | exact List.Sublist.refl _ | exact List.nil_sublist _ | apply List.Sublist.cons_cons | apply List.Sublist.cons)) hh)) ?_
  refine d_pure0 rfl rfl rfl (pure_assign rfl) ?_
  refine d_nil ?_
  exact c_ret ⟨_, res_cell2_tmp (i := 1) (j := 0) Try.results72 rfl rfl rfl rfl rfl (pa_le (p := zPa) zAc8) (load_all (pa_len (p := zPa) zAc8)) rfl rfl rfl rfl rfl (ac_le h') (load_all (ac_len h')) rfl, rfl⟩
 rw [if_neg (of_decide_eq_false h4)]
 refine c_skip ?_
 repeat refine c_seq ?_
 refine c_region ?_
 refine step_pure rfl (pure_fieldAddr rfl rfl rfl rfl rfl (by decide)) ?_
 refine step_pure rfl (pure_load_agg (i := 2) (vs := paC m) rfl rfl rfl rfl rfl (pa_le h) (load_all (pa_len h))) ?_
 refine step_gives rfl fun69 rfl (fun w _ _ => none_any m w h) ?_
 refine qx rfl rfl rfl ?_
 refine qx rfl rfl rfl ?_
 refine qx rfl rfl rfl ?_
 refine step_store_agg 1 rfl rfl rfl (pa_one _) rfl (pa_len h) rfl rfl (Nat.le_of_ble_eq_true rfl) (splice_all (pa_len h)) ?_
 refine step_store_agg 0 rfl rfl rfl (ac_one zAc) rfl (ac_len zAc8) rfl rfl (Nat.le_of_ble_eq_true rfl) (splice_all (ac_len zAc8)) ?_
 refine qa rfl rfl ?_
 refine step_nil ?_
 exact c_ret ⟨_, res_cell2_tmp (i := 1) (j := 0) Try.results72 rfl rfl rfl rfl rfl (pa_le h) (load_all (pa_len h)) rfl rfl rfl rfl rfl (ac_le zAc8) (load_all (ac_len zAc8)) rfl, rfl⟩
end Go.Proofs.Ytadginombcjbeaa
/- Runes to acts, one: walked. -/
namespace Go.Vc
open Go.RowKit
set_option linter.unusedVariables false
section
variable {B : Tb} {E : Env} {n : Nat} {all rest : List Oper} {rs : Rs} {m : Mem} {K : Act → World → Prop}
variable {dst : Option Tmp} {ty : TypeId} {pos : String} {aft : Array Edge} {gd : Option (Nat × Bool)}
/-- A method of a value. -/
theorem pure_makeFirst {f : Fn} {xs : List Operand} {vs : List Value} (hv : evs rs xs = some vs) :
  Pure B E rs m ⟨dst, .makeFunc f xs.toArray #[], ty, pos, aft, gd⟩ (.func f vs.toArray #[]) := by
 refine ⟨fun a w hr hh hk => ?_⟩
 have e1 : xs.toArray.map a.eval = vs.toArray := by rw [List.map_toArray, evs_ok hr hv]
 simp [execOp, Instr.makeFunc, ← e1]
theorem step_givesf {f : FuncId} {fx : Operand} {args : List Operand} {ats : Array TypeId} {vs xs us : List Value} {v : Value} {d : Nat}
  (hc : chk all n rs ⟨dst, .call ⟨.value fx, args.toArray, ats⟩, ty, pos, aft, gd⟩ = some d)
  (hfx : ev rs fx = some (.func (.func f) xs.toArray #[])) (hf : Fun B f) (hv : evs rs args = some vs) (hu : xs ++ vs = us) (hg : ∀ w, Has w m → Keep E.w0 w E.ws → Gives B f us w v)
  (h : WPl B E n all rest ((d, v) :: rs) m K) :
  WPl B E n all (⟨dst, .call ⟨.value fx, args.toArray, ats⟩, ty, pos, aft, gd⟩ :: rest) rs m K := by
 subst hu
 refine ⟨fun Q hQ a w ok => ?_⟩
 obtain ⟨hw, hd, hdn⟩ := chk_ok hc
 unfold wpList
 rw [if_pos (wants_ok ok.regs hw)]
 left
 unfold Oper.wp
 have hrun : (execOp a.eval ⟨dst, .call ⟨.value fx, args.toArray, ats⟩, ty, pos, aft, gd⟩).run B.P w = .ok (.enter f (xs ++ vs).toArray) w := by
  have e1 : args.toArray.map a.eval = vs.toArray := by rw [List.map_toArray, evs_ok ok.regs hv]
  simp only [execOp, resolve, e1, ev_ok ok.regs hfx, Deferred.ofValue, Sem.run_bind, Sem.run_pure, Result.andThen_ok, invoke]
  have := hf (xs ++ vs).toArray w
  simpa using this
 rw [hrun]
 refine (hg w ok.has ok.keep).calls.mono ?_
 rintro e w' ⟨rfl, hkeep⟩
 have hd' : dst = some d := hd
 subst hd'
 exact h.run Q hQ _ _ ⟨(put_size ..).trans ok.size, (put_defers ..).trans ok.defers, put_regs (d := some d) ok.size hdn ok.regs, hkeep.has ok.has, ok.own, ok.keep.trans hkeep (by simp)⟩
end
end Go.Vc
namespace Go.Proofs.Ytadginombcjbeaa
open Go.RowKit Go.Vc
set_option linter.unusedVariables false
theorem state_any (m : Pa) (n : Int) (w : World) (h : Ac8 m.act) (ok : PaOk m) (f : FuncId)
  (hf : f = if m.st = 0 then 70 else if m.st = 1 then 71 else if m.st = 2 then 72 else 73) :
  Gives tb f [.agg (paC m).toArray, .int .i64 n] w (esV (esState m n)) := by
 subst hf
 unfold esState
 split
 ·exact ground_any m n w h
 ·split
  ·exact escaped_any m n w h
  ·split
   ·exact csi_any m n w h ok
   ·exact osc_any m n w h
theorem state_fun (m : Pa) : Fun tb (if m.st = 0 then 70 else if m.st = 1 then 71 else if m.st = 2 then 72 else 73) := by
 split
 ·exact fun70
 ·split
  ·exact fun71
  ·split
   ·exact fun72
   ·exact fun73
def stF (m : Pa) (f : FuncId) : Value := .func (.func f) [.agg (paC m).toArray].toArray #[]
theorem state_at (m : Pa) (ok : PaOk m) : [stF m 70, stF m 71, stF m 72, stF m 73][m.st.toNat]? =
  some (stF m (if m.st = 0 then 70 else if m.st = 1 then 71 else if m.st = 2 then 72 else 73)) := by
 obtain ⟨h1, h2⟩ := ok.st
 have : m.st = 0 ∨ m.st = 1 ∨ m.st = 2 ∨ m.st = 3 := by omega
 rcases this with h | h | h | h <;> rw [h] <;> rfl
set_option maxHeartbeats 2000000 in
theorem esStep_any (p : Pa) (n : Int) (w : World) (h : Ac8 p.act) : Gives tb 36 [.agg (paC p).toArray, .int .i64 n] w (esV (esStep p n)) := by
 refine gives_of (fn := Try.f36) Try.func36 rfl Try.ntmps36 rfl ?_
 have hm := paOf8 h
 have hok := paOf_ok p
 unfold esStep
 repeat refine c_seq ?_
 refine c_region ?_
 refine step_box_agg rfl rfl (fun b2 => ?_)
 refine step_alloc rfl zero28 (fun b4 => ?_)
 refine step_alloc rfl zero26 (fun b5 => ?_)
 refine qa rfl rfl ?_
 refine step_nil ?_
 repeat refine c_seq ?_
 refine c_region ?_
 refine step_pure rfl (pure_load_agg (i := 2) (vs := paC p) rfl rfl rfl rfl rfl (pa_le h) (load_all (pa_len h))) ?_
 refine step_gives rfl fun68 rfl (fun w _ _ => of_any p w h) ?_
 refine step_alloc rfl zero94 (fun b7 => ?_)
 refine step_store_agg 0 rfl rfl rfl (pa_one _) rfl (pa_len hm) rfl rfl (Nat.le_of_ble_eq_true rfl) (splice_all (pa_len hm)) ?_
 refine step_nil ?_
 generalize paOf p = m at *
 repeat refine c_seq ?_
 refine c_block ?_
 repeat refine c_seq ?_
 refine c_region ?_
 refine qm rfl rfl ?_
 refine step_pure rfl (pure_eql rfl rfl) ?_
 refine qa rfl rfl ?_
 refine step_nil ?_
 repeat refine c_seq ?_
 refine c_cond rfl (fun h1 => ?_) (fun h1 => ?_)
 ·rw [if_pos (beq_iff_eq.1 h1)]
  repeat refine c_seq ?_
  refine c_region ?_
  refine step_pure rfl (pure_build_struct (pl := [(0, 1), (1, 12)]) rfl zero28 rfl rfl rfl rfl) ?_
  refine step_gives rfl fun69 rfl (fun w _ _ => none_any ⟨1, zAc⟩ w zAc8) ?_
  refine qx rfl rfl rfl ?_
  refine qx rfl rfl rfl ?_
  refine qx rfl rfl rfl ?_
  refine step_store_agg 2 rfl rfl rfl (pa_one _) rfl (pa_len (p := ⟨1, zAc⟩) zAc8) rfl rfl (Nat.le_of_ble_eq_true rfl) (splice_all (pa_len (p := ⟨1, zAc⟩) zAc8)) ?_
  refine step_store_agg 1 rfl rfl rfl (ac_one zAc) rfl (ac_len zAc8) rfl rfl (Nat.le_of_ble_eq_true rfl) (splice_all (ac_len zAc8)) ?_
  refine qa rfl rfl ?_
  refine step_nil ?_
  exact c_ret ⟨_, res_cell2_tmp (i := 2) (j := 1) Try.results36 rfl rfl rfl rfl rfl (pa_le (p := ⟨1, zAc⟩) zAc8) (load_all (pa_len (p := ⟨1, zAc⟩) zAc8)) rfl rfl rfl rfl rfl (ac_le (a := zAc) zAc8) (load_all (ac_len (a := zAc) zAc8)) rfl, rfl⟩
 rw [if_neg (by intro e; rw [e] at h1; cases h1)]
 clear h1
 repeat refine c_seq ?_
 refine c_meet [(1, .int .i64 n), (2, .pointer (some ⟨b2, 0, none⟩)), (4, .pointer (some ⟨b4, 0, none⟩)), (5, .pointer (some ⟨b5, 0, none⟩)), (7, .pointer (some ⟨b7, 0, none⟩)), (19, .bool (decide (0 ≤ n ∧ n < 32 ∧ m.st ≠ 3)))]
  [⟨b7, paC m, 94⟩, ⟨b5, acC zAc, tA⟩, ⟨b4, paC zPa, tP⟩, ⟨b2, paC p, tP⟩] ?_ ?_
 ·clear hok hm
  repeat refine c_seq ?_
  refine c_region ?_
  refine qm rfl rfl ?_
  refine step_pure rfl (pure_geq rfl rfl) ?_
  refine qm rfl rfl ?_
  refine step_split (t := 22) rfl (fun h22 => ?_) (fun h22 => ?_)
  ·refine qm rfl rfl ?_
   refine step_pure rfl (pure_lss rfl rfl) ?_
   refine step_pure rfl (pure_pick_yes rfl rfl) ?_
   refine qm rfl rfl ?_
   refine step_split (t := 26) rfl (fun h26 => ?_) (fun h26 => ?_)
   ·refine step_pure rfl (pure_fieldAddr rfl rfl rfl rfl rfl (by decide)) ?_
    refine step_pure rfl (pure_fieldAddr rfl rfl rfl rfl rfl (by decide)) ?_
    refine step_pure rfl (pure_load (i := 0) rfl rfl rfl rfl rfl rfl) ?_
    refine step_pure rfl (pure_neq rfl rfl) ?_
    refine step_pure rfl (pure_pick_yes rfl rfl) ?_
    refine qa rfl rfl ?_
    refine step_nil ?_
    refine less_of ⟨rfl, rfl, rfl, rfl, rfl, ?_, trivial⟩ rfl
    refine congrArg some (congrArg Value.bool ?_)
    simp_all
    try first | omega | rfl | (rw [Bool.eq_iff_iff]; simp; done) | (rw [Bool.eq_iff_iff]; simp; omega)
   ·refine qp rfl rfl rfl ?_
    refine qp rfl rfl rfl ?_
    refine qp rfl rfl rfl ?_
    refine qp rfl rfl rfl ?_
    refine step_pure rfl (pure_pick_no rfl rfl) ?_
    refine qa rfl rfl ?_
    refine step_nil ?_
    refine less_of ⟨rfl, rfl, rfl, rfl, rfl, ?_, trivial⟩ rfl
    refine congrArg some (congrArg Value.bool ?_)
    simp_all
    try first | omega | rfl | (rw [Bool.eq_iff_iff]; simp; done) | (rw [Bool.eq_iff_iff]; simp; omega)
  ·refine qp rfl rfl rfl ?_
   refine qp rfl rfl rfl ?_
   refine step_pure rfl (pure_pick_no rfl rfl) ?_
   refine qm rfl rfl ?_
   refine qp rfl rfl rfl ?_
   refine qp rfl rfl rfl ?_
   refine qp rfl rfl rfl ?_
   refine qp rfl rfl rfl ?_
   refine step_pure rfl (pure_pick_no rfl rfl) ?_
   refine qa rfl rfl ?_
   refine step_nil ?_
   refine less_of ⟨rfl, rfl, rfl, rfl, rfl, ?_, trivial⟩ rfl
   refine congrArg some (congrArg Value.bool ?_)
   simp_all
   try first | omega | rfl | (rw [Bool.eq_iff_iff]; simp; done) | (rw [Bool.eq_iff_iff]; simp; omega)
 repeat refine c_seq ?_
 refine c_cond rfl (fun h2 => ?_) (fun h2 => ?_)
 ·have h2 := of_decide_eq_true h2
  rw [if_pos h2]
  repeat refine c_seq ?_
  refine c_region ?_
  refine step_pure rfl (pure_fieldAddr rfl rfl rfl rfl rfl (by decide)) ?_
  refine step_pure rfl (pure_load_agg (i := 0) (vs := paC m) rfl rfl rfl rfl rfl (pa_le hm) (load_all (pa_len hm))) ?_
  refine qm rfl rfl ?_
  refine step_pure rfl (pure_build_struct (pl := [(0, 1), (1, 1), (2, 1), (3, 1), (4, 8)]) rfl zero26 rfl rfl rfl rfl) ?_
  refine step_store_agg 2 rfl rfl rfl (pa_one _) rfl (pa_len hm) rfl rfl (Nat.le_of_ble_eq_true rfl) (splice_all (pa_len hm)) ?_
  refine step_store_agg 1 rfl rfl rfl (ac_one ⟨2, n, false, 0, z8⟩) rfl (ac_len (a := ⟨2, n, false, 0, z8⟩) rfl) rfl rfl (Nat.le_of_ble_eq_true rfl) (splice_all (ac_len (a := ⟨2, n, false, 0, z8⟩) rfl)) ?_
  refine qa rfl rfl ?_
  refine step_nil ?_
  exact c_ret ⟨_, res_cell2_tmp (i := 2) (j := 1) Try.results36 rfl rfl rfl rfl rfl (pa_le (p := m) hm) (load_all (pa_len (p := m) hm)) rfl rfl rfl rfl rfl (ac_le (a := ⟨2, n, false, 0, z8⟩) rfl) (load_all (ac_len (a := ⟨2, n, false, 0, z8⟩) rfl)) rfl, rfl⟩
 rw [if_neg (of_decide_eq_false h2)]
 refine c_skip ?_
 clear h2
 have hst := hok.st
 have hat := state_at m hok
 have hfn := state_fun m
 have hgv := fun w => state_any m n w hm hok _ rfl
 generalize (if m.st = 0 then 70 else if m.st = 1 then 71 else if m.st = 2 then 72 else 73) = f at *
 have h8 : Ac8 (esState m n).1.act ∧ Ac8 (esState m n).2.1 := by
  unfold esState
  split
  ·unfold esGround
   split
   ·exact ⟨hm, zAc8⟩
   ·exact ⟨hm, rfl⟩
  ·split
   ·unfold esEscaped
    split
    ·exact ⟨zAc8, zAc8⟩
    ·split
     ·exact ⟨zAc8, zAc8⟩
     ·split
      ·exact ⟨zAc8, rfl⟩
      ·exact ⟨zAc8, zAc8⟩
   ·split
    ·exact esCsi8 n hm
    ·unfold esOsc
     split
     ·exact ⟨zAc8, zAc8⟩
     ·exact ⟨hm, zAc8⟩
 generalize esState m n = r at *
 repeat refine c_seq ?_
 refine c_region ?_
 refine step_pure rfl (pure_load_agg (i := 0) (vs := paC m) rfl rfl rfl rfl rfl (pa_le hm) (load_all (pa_len hm))) ?_
 refine step_pure rfl (pure_makeFirst (vs := [.agg (paC m).toArray]) rfl) ?_
 refine step_pure rfl (pure_load_agg (i := 0) (vs := paC m) rfl rfl rfl rfl rfl (pa_le hm) (load_all (pa_len hm))) ?_
 refine step_pure rfl (pure_makeFirst (vs := [.agg (paC m).toArray]) rfl) ?_
 refine step_pure rfl (pure_load_agg (i := 0) (vs := paC m) rfl rfl rfl rfl rfl (pa_le hm) (load_all (pa_len hm))) ?_
 refine step_pure rfl (pure_makeFirst (vs := [.agg (paC m).toArray]) rfl) ?_
 refine step_pure rfl (pure_load_agg (i := 0) (vs := paC m) rfl rfl rfl rfl rfl (pa_le hm) (load_all (pa_len hm))) ?_
 refine step_pure rfl (pure_makeFirst (vs := [.agg (paC m).toArray]) rfl) ?_
 refine step_pure rfl (pure_build_arr rfl zero98 rfl rfl rfl rfl) ?_
 refine step_alloc rfl zero98 (fun b8 => ?_)
 refine step_store_agg 0 rfl rfl rfl (of_one rfl) rfl rfl rfl rfl (Nat.le_of_ble_eq_true rfl) (show _ = [stF m 70, stF m 71, stF m 72, stF m 73] from rfl) ?_
 refine step_nil ?_
 repeat refine c_seq ?_
 refine c_region ?_
 refine step_pure rfl (pure_fieldAddr rfl rfl rfl rfl rfl (by decide)) ?_
 refine step_pure rfl (pure_fieldAddr rfl rfl rfl rfl rfl (by decide)) ?_
 refine step_pure rfl (pure_load (i := 1) rfl rfl rfl rfl rfl rfl) ?_
 refine step_pure rfl (pure_ix (off' := m.st.toNat) rfl rfl rfl rfl rfl (by omega) (by omega) (by show 0 + m.st.toNat * 1 = _; omega)) ?_
 refine step_pure rfl (pure_load (i := 0) (v := stF m f) rfl rfl rfl rfl rfl hat) ?_
 refine qm rfl rfl ?_
 refine step_givesf rfl rfl hfn rfl rfl (fun w _ _ => hgv w) ?_
 refine qx rfl rfl rfl ?_
 refine qx rfl rfl rfl ?_
 refine qx rfl rfl rfl ?_
 refine step_store_agg 3 rfl rfl rfl (pa_one _) rfl (pa_len h8.1) rfl rfl (Nat.le_of_ble_eq_true rfl) (splice_all (pa_len h8.1)) ?_
 refine step_store_agg 2 rfl rfl rfl (ac_one _) rfl (ac_len h8.2) rfl rfl (Nat.le_of_ble_eq_true rfl) (splice_all (ac_len h8.2)) ?_
 refine qa rfl rfl ?_
 refine step_nil ?_
 exact c_ret ⟨_, res_cell2_tmp (i := 3) (j := 2) Try.results36 rfl rfl rfl rfl rfl (pa_le (p := r.1) h8.1) (load_all (pa_len (p := r.1) h8.1)) rfl rfl rfl rfl rfl (ac_le (a := r.2.1) h8.2) (load_all (ac_len (a := r.2.1) h8.2)) rfl, rfl⟩
end Go.Proofs.Ytadginombcjbeaa
/- Acts of runes: walked. -/
namespace Go.Proofs.Ytadginombcjbeaa
open Go.RowKit Go.Vc
set_option linter.unusedVariables false
abbrev uA : Ty := ty26
theorem acR_app (a b : List Ac) : acR (a ++ b) = acR a ++ acR b := List.flatMap_append ..
theorem acR_one (a : Ac) : acR [a] = acC a := by
 show acC a ++ [] = _
 rw [List.append_nil]
theorem acR_len : ∀ {l : List Ac}, (∀ a ∈ l, Ac8 a) → (acR l).length = l.length * 12
 | [], _ => rfl
 | a :: l, h => by
  show (acC a ++ acR l).length = (l.length + 1) * 12
  rw [List.length_append, ac_len (h a (.head _)), acR_len fun b hb => h b (.tail _ hb)]
  omega
def AcR (x : List Ac × Pa) (u : Value) (C : Addr → Value → Prop) : Prop := ∃ v, u = .tuple #[v, .agg (paC x.2).toArray] ∧ SlC C 12 v x.1.length (acR x.1)
theorem acR_mono {x : List Ac × Pa} : ∀ v (C C' : Addr → Value → Prop), (∀ p x, C p x → C' p x) → AcR x v C → AcR x v C' := by
 rintro v C C' hC ⟨u, rfl, h⟩
 exact ⟨u, rfl, h.mono hC⟩
theorem rowA : (rowOf (acC zAc) (1 * uA.size)).length = 12 := by kernel_rfl
theorem fillA {a : Ac} (h : Ac8 a) : fillL (fun i => some (i * uA.size, uA.size)) (rowOf (acC zAc) (1 * uA.size)) [(0, .agg (acC a).toArray)] = some (acC a) := fill_one rfl (ac_len h) (by decide) rowA
set_option maxHeartbeats 2000000 in
theorem acts_P (q : Pa) (ns : List Int) (v : Value) (w : World) {Z : Nat → Prop} (hZ : ∀ j, w.heap.size ≤ j → Z j) (hq : Ac8 q.act) (hv : SlC (At w) 1 v ns.length (ints .i64 ns)) (hle : ns.length ≤ 2000) :
  GivesP tb 21 [.agg (paC q).toArray, v] w Z (AcR (esActs q ns)) := by
 replace hv : SlC (Cz (fun _ => True) ⟨w, [], []⟩) 1 v ns.length (ints .i64 ns) := hv.mono fun p x h => ⟨⟨h, by simp⟩, trivial⟩
 obtain ⟨base0, cap0, rfl, _⟩ := slc_sl hv
 refine givesP_of (fn := Try.f21) Try.func21 rfl Try.ntmps21 rfl hZ acR_mono (fun on => ?_)
 repeat refine s_seqs ?_
 refine s_reg ?_
 refine step_box_agg rfl rfl (fun b2 => ?_)
 refine qa rfl rfl ?_
 refine step_hole ?_
 refine step_alloc rfl zero28 (fun b5 => ?_)
 refine Vc.step_end (fun a w ok => ?_)
 first | (refine WPs.run ?_ a w ok; clear ok w a) | skip
 repeat refine s_seqs ?_
 refine s_reg ?_
 refine qm rfl rfl ?_
 refine step_pure rfl (pure_len_slice rfl rfl rfl) ?_
 refine qm rfl rfl ?_
 refine Vc.step_end (fun a w ok => ?_)
 first | (refine WPs.run ?_ a w ok; clear ok w a) | skip
 repeat refine s_seqs ?_
 refine s_block ?_
 repeat refine s_seqs ?_
 refine s_loopP (α := Nat × Pa × List Ac × Option Addr × Nat × Ent)
  (fun y => [(2, .pointer (some ⟨b2, 0, none⟩)), (4, .slice y.2.2.2.1 y.2.2.1.length y.2.2.2.2.1), (5, .pointer (some ⟨b5, 0, none⟩)), (10, .slice base0 ns.length cap0), (11, .int .i64 ns.length), (12, .int .i64 y.1)])
  (fun y => [⟨b5, paC zPa, tP⟩, y.2.2.2.2.2, ⟨b2, paC y.2.1, tP⟩])
  (fun y _ => y.1 ≤ ns.length ∧ SlIs uA tA y.2.2.2.2.2 y.2.2.2.1 y.2.2.1.length y.2.2.2.2.1 (acR y.2.2.1) ∧ y.2.2.1.length ≤ y.1 ∧ Ac8 y.2.1.act ∧ (∀ a ∈ y.2.2.1, Ac8 a) ∧ esActs q ns = (y.2.2.1 ++ (esActs y.2.1 (ns.drop y.1)).1, (esActs y.2.1 (ns.drop y.1)).2))
  (fun y => ns.length - y.1) (0, q, [], none, 0, hole) ⟨Nat.zero_le _, sl_nil uA tA (by decide), Nat.le_refl _, hq, (fun _ h => by cases h), rfl⟩ (less_sub ⟨rfl, rfl, rfl, rfl, rfl, rfl, trivial⟩ (by repeat (first | exact List.Sublist.refl _ | exact List.nil_sublist _ | apply List.Sublist.cons_cons | apply List.Sublist.cons))) ?_
 clear hq
 rintro ⟨i, q', o, base, cap, e⟩ E2 ⟨hi, hs, hol, hq, ho8, hrun⟩ g
 replace on := on.next g
 replace hv := hv.mono g.cz
 clear g
 dsimp only at hi hs hol hq ho8 hrun ⊢
 repeat refine s_seqs ?_
 refine s_reg ?_
 refine step_pure rfl (pure_lss rfl rfl) ?_
 refine Vc.step_end (fun a w ok => ?_)
 first | (refine WPs.run ?_ a w ok; clear ok w a) | skip
 repeat refine s_seqs ?_
 refine s_cond rfl (fun h => ?_) (fun h => ?_)
 ·have hlt : i < ns.length := by have := of_decide_eq_true h; omega
  clear h
  refine s_skip fun a w ok => WPs.run ?_ a w ok
  clear ok w a
  obtain ⟨p, cap', e1, q1⟩ := slc_at1 hv hlt
  cases e1
  have hd : ns.drop i = ns[i] :: ns.drop (i + 1) := List.drop_eq_getElem_cons hlt
  generalize ns[i] = x at *
  repeat refine s_seqs ?_
  refine s_block ?_
  repeat refine s_seqs ?_
  refine s_reg ?_
  refine step_pure rfl (pure_indexAddr_at rfl rfl rfl rfl rfl (by omega) (by omega)) ?_
  refine step_pure rfl (pure_cel rfl rfl rfl (show (Cel E2) _ _ from by rw [Int.toNat_natCast]; exact q1.1)) ?_
  refine qa rfl rfl ?_
  refine Vc.step_end (fun a w ok => ?_)
  first | (refine WPs.run ?_ a w ok; clear ok w a) | skip
  have hst := fun w => esStep_any q' x w hq
  obtain ⟨h81, h82⟩ := esStep8 x hq
  have hd2 : esActs q' (x :: ns.drop (i + 1)) = (esOut (esStep q' x) ++ (esActs (esStep q' x).1 (ns.drop (i + 1))).1, (esActs (esStep q' x).1 (ns.drop (i + 1))).2) := rfl
  unfold esV at hst
  unfold esOut at hd2
  generalize esStep q' x = r at *
  obtain ⟨r1, r2, r3⟩ := r
  dsimp only at hst h81 h82 hd2
  repeat refine s_seqs ?_
  refine s_reg ?_
  refine step_alloc rfl zero26 (fun b8 => ?_)
  refine Vc.step_end (fun a w ok => ?_)
  first | (refine WPs.run ?_ a w ok; clear ok w a) | skip
  repeat refine s_seqs ?_
  refine s_reg ?_
  refine qa rfl rfl ?_
  refine Vc.step_end (fun a w ok => ?_)
  first | (refine WPs.run ?_ a w ok; clear ok w a) | skip
  repeat refine s_seqs ?_
  refine s_reg ?_
  first | refine step_pure rfl (pure_load_agg (i := 2) (vs := paC q') rfl rfl rfl rfl rfl (pa_le hq) (load_all (pa_len hq))) ?_ | refine step_pure rfl (pure_load_agg (i := 3) (vs := paC q') rfl rfl rfl rfl rfl (pa_le hq) (load_all (pa_len hq))) ?_
  refine qm rfl rfl ?_
  refine step_gives rfl fun36 rfl (fun w _ _ => hst w) ?_
  refine qm rfl rfl ?_
  refine qx rfl rfl rfl ?_
  refine qx rfl rfl rfl ?_
  refine qx rfl rfl rfl ?_
  refine step_store_agg 3 rfl rfl rfl (pa_one _) rfl (pa_len h81) rfl rfl (by show 0 + 13 ≤ (paC q').length; exact pa_le hq) (splice_all (by rw [pa_len h81]; exact (pa_len hq).symm)) ?_
  refine step_store_agg 0 rfl rfl rfl (ac_one _) rfl (ac_len h82) rfl rfl (Nat.le_of_ble_eq_true rfl) (splice_all (ac_len h82)) ?_
  refine qa rfl rfl ?_
  refine Vc.step_end (fun a w ok => ?_)
  first | (refine WPs.run ?_ a w ok; clear ok w a) | skip
  repeat refine s_seqs ?_
  refine s_reg ?_
  refine qm rfl rfl ?_
  refine Vc.step_end (fun a w ok => ?_)
  first | (refine WPs.run ?_ a w ok; clear ok w a) | skip
  cases r3 with
  | false =>
   repeat refine s_seqs ?_
   refine s_cond_no rfl rfl ?_
   refine s_skip fun a w ok => WPs.run ?_ a w ok
   clear ok w a
   repeat refine s_seqs ?_
   refine s_reg ?_
   first | refine step_pure rfl (pure_add64 rfl rfl (by omega) (by omega)) ?_ | refine step_pure rfl (pure_add rfl rfl) ?_
   refine qm rfl rfl ?_
   refine Vc.step_end (fun a w ok => ?_)
   refine ⟨(i + 1, r1, o, base, cap, e), E2, ⟨hlt, hs, by show o.length ≤ i + 1; omega, h81, ho8, ?_⟩, by show ns.length - (i + 1) < ns.length - i; omega, Gt.refl _, Less.ok ?_ ok⟩
   ·rw [hrun, hd, hd2]; rfl
   ·exact less_sub ⟨rfl, rfl, rfl, rfl, rfl, rfl, trivial⟩ (by repeat (first | exact List.Sublist.refl _ | exact List.nil_sublist _ | apply List.Sublist.cons_cons | apply List.Sublist.cons))
  | true =>
   repeat refine s_seqs ?_
   refine s_cond_yes rfl rfl ?_
   repeat refine s_seqs ?_
   refine s_reg ?_
   refine qm rfl rfl ?_
   refine step_pure rfl (pure_load_agg (i := 0) (vs := acC r2) rfl rfl rfl rfl rfl (ac_le h82) (load_all (ac_len h82))) ?_
   refine step_buildSlice rfl rfl rfl rfl elem26 (by decide) (by decide) (fillA h82) (fun b26 => ?_)
   refine step_append 3 rfl rfl hs rfl rfl rfl rfl rfl elem26 rfl (by decide) rfl rfl (ac_len h82) (src_own (j := 0) (sl_built uA tA b26 (acC r2) 1 (ac_len h82)) rfl) (ac_one _) (by omega) (by omega) (fun base3 cap3 e3 hs3 => ?_)
   refine qa rfl rfl ?_
   refine Vc.step_end (fun a w ok => ?_)
   first | (refine WPs.run ?_ a w ok; clear ok w a) | skip
   repeat refine s_seqs ?_
   refine s_reg ?_
   first | refine step_pure rfl (pure_add64 rfl rfl (by omega) (by omega)) ?_ | refine step_pure rfl (pure_add rfl rfl) ?_
   refine qm rfl rfl ?_
   refine Vc.step_end (fun a w ok => ?_)
   refine ⟨(i + 1, r1, o ++ [r2], base3, cap3, e3), E2, ⟨hlt, ?_, ?_, h81, ?_, ?_⟩, by show ns.length - (i + 1) < ns.length - i; omega, Gt.refl _, Less.ok ?_ ok⟩
   ·show SlIs uA tA e3 base3 (o ++ [r2]).length cap3 (acR (o ++ [r2])); rw [acR_app, acR_one, List.length_append]; exact hs3
   ·show (o ++ [r2]).length ≤ i + 1; rw [List.length_append]; exact Nat.succ_le_succ hol
   ·intro a ha; rcases List.mem_append.1 ha with ha | ha; exact ho8 a ha; rw [List.mem_singleton.1 ha]; exact h82
   ·rw [hrun, hd, hd2]; show (o ++ ([r2] ++ _), _) = ((o ++ [r2]) ++ _, _); rw [List.append_assoc]
   ·exact less_sub ⟨rfl, by show some _ = some _; rw [List.length_append]; rfl, rfl, rfl, rfl, rfl, trivial⟩ (by repeat (first | exact List.Sublist.refl _ | exact List.nil_sublist _ | apply List.Sublist.cons_cons | apply List.Sublist.cons))
 ·have hge : i = ns.length := by have := of_decide_eq_false h; omega
  clear h
  subst hge
  rw [List.drop_length] at hrun
  refine s_exit fun a w ok => WPs.run ?_ a w ok
  clear ok w a
  repeat refine s_seqs ?_
  refine s_dreg [1, 11, 17, 28] ([⟨b2, paC q', tP⟩]) follows (by kernel_rfl) ?_
  refine qd rfl rfl rfl rfl ?_
  refine d_pure1 rfl rfl rfl (pure_load_agg (i := 0) (vs := paC q') rfl rfl rfl rfl rfl (pa_le hq) (load_all (pa_len hq))) (by first | exact SubMem.refl _ | exact (SubMem.refl _).cons | exact (SubMem.refl _).cons.cons | exact (SubMem.refl _).cons.cons.cons | exact (SubMem.refl _).cons.cons.cons.cons | exact (fun w hh => Has.sublist (by repeat (first | exact List.Sublist.refl _ | exact List.nil_sublist _ | apply List.Sublist.cons_cons | apply List.Sublist.cons)) hh)) ?_
  refine d_pure0 rfl rfl rfl (pure_assign rfl) ?_
  refine d_store_agg 0 rfl rfl rfl rfl rfl (pa_one _) rfl (pa_len hq) rfl rfl (Nat.le_of_ble_eq_true rfl) (splice_all (pa_len hq)) rfl rfl ?_
  refine d_end (fun a w ok => ?_)
  first | (refine WPs.run ?_ a w ok; clear ok w a) | skip
  refine s_let 1 rfl (fun E4 g hc => ?_)
  have hv3 := slis_cz hs (hc _ on.sc)
  replace on := on.next g
  exact s_ret fun a w ok => ends_givesP on (.inr rfl) ok (res_tmp_cell (i := 0) Try.results21 rfl rfl rfl rfl rfl rfl (pa_le hq) (load_all (pa_len hq))) acR_mono (by rw [hrun]; exact ⟨_, rfl, by show SlC _ 12 _ (o ++ []).length (acR (o ++ [])); rw [List.append_nil]; exact hv3⟩)
end Go.Proofs.Ytadginombcjbeaa
