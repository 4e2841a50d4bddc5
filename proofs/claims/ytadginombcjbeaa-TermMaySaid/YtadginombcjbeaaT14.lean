/- Cursors saved, modes, controls: walked. -/
import Derived.Test.YtadginombcjbeaaT13
namespace Go.Proofs.Ytadginombcjbeaa
open Go.RowKit Go.Vc
set_option linter.unusedVariables false
theorem scv_swap {C : Addr → Value → Prop} {s : Scr} {v1 v2 : Value} (h : ScV C s (scC s v1 v2)) : ScV C { s with cells := s.main, main := [], alt := false } (scC { s with cells := s.main, main := [], alt := false } v2 (.slice none 0 0)) := by
 obtain ⟨u1, u2, he, h1, h2⟩ := h
 unfold scC at he
 simp only [List.cons.injEq, and_true, true_and] at he
 obtain ⟨e1, e2⟩ := he
 subst e1 e2
 exact ⟨_, _, rfl, h2, slc_none⟩
set_option maxHeartbeats 1000000 in
theorem save_S (s : Scr) (cs : List Value) (w : World) {Z : Nat → Prop} (hZ : ∀ j, w.heap.size ≤ j → Z j) (hs : ScV (AtZ w Z) s cs) (ok0 : ScOk s) : GivesP tb 41 [.agg cs.toArray] w Z (ScR (tmSave s)) := by
 replace hs := hs.mono cz_start
 obtain ⟨a1, l1, c1, a2, l2, c2, rfl⟩ := scv_agg hs
 obtain ⟨k1, k2⟩ := ok_lens ok0
 refine givesP_of (fn := Try.f41) Try.func41 rfl Try.ntmps41 rfl hZ scR_mono (fun on => ?_)
 repeat refine s_seqs ?_
 refine s_reg ?_
 refine step_box_agg rfl rfl (fun b1 => ?_)
 refine step_alloc rfl zero32 (fun b2 => ?_)
 refine Vc.step_end (fun a w ok => ?_)
 first | (refine WPs.run ?_ a w ok; clear ok w a) | skip
 repeat refine s_seqs ?_
 refine s_reg ?_
 refine step_pure rfl (pure_fieldAddr rfl rfl rfl rfl rfl (by decide)) ?_
 refine step_pure rfl (pure_load (i := 1) rfl rfl rfl rfl rfl rfl) ?_
 refine step_pure rfl (pure_fieldAddr rfl rfl rfl rfl rfl (by decide)) ?_
 refine step_pure rfl (pure_load (i := 1) rfl rfl rfl rfl rfl rfl) ?_
 refine step_pure rfl (pure_fieldAddr rfl rfl rfl rfl rfl (by decide)) ?_
 refine step_pure rfl (pure_load (i := 1) rfl rfl rfl rfl rfl rfl) ?_
 refine step_pure rfl (pure_build_arr rfl zero30 rfl rfl rfl rfl) ?_
 refine step_pure rfl (pure_fieldAddr rfl rfl rfl rfl rfl (by decide)) ?_
 refine step_store_agg 1 rfl rfl rfl (of_one rfl) rfl rfl rfl rfl (Nat.le_of_ble_eq_true rfl) (show _ = scC (tmSave s) (.slice a1 l1 c1) (.slice a2 l2 c2) from rfl) ?_
 refine Vc.step_end (fun a w ok => ?_)
 first | (refine WPs.run ?_ a w ok; clear ok w a) | skip
 repeat refine s_seqs ?_
 refine s_reg ?_
 refine step_pure rfl (pure_load_agg (i := 1) rfl rfl rfl rfl rfl (Nat.le_of_ble_eq_true rfl) rfl) ?_
 refine step_store_agg 0 rfl rfl rfl (of_one rfl) rfl rfl rfl rfl (Nat.le_of_ble_eq_true rfl) (show _ = scC (tmSave s) (.slice a1 l1 c1) (.slice a2 l2 c2) from rfl) ?_
 refine Vc.step_end (fun a w ok => ?_)
 first | (refine WPs.run ?_ a w ok; clear ok w a) | skip
 exact s_ret fun a w ok => ends_givesP on (.inr rfl) ok (res_cell_agg (i := 0) Try.results41 rfl rfl rfl rfl rfl (Nat.le_of_ble_eq_true rfl) rfl) scR_mono ⟨_, rfl, scv_to hs rfl rfl⟩
set_option maxHeartbeats 1000000 in
theorem restore_S (s : Scr) (cs : List Value) (w : World) {Z : Nat → Prop} (hZ : ∀ j, w.heap.size ≤ j → Z j) (hs : ScV (At w) s cs) (ok0 : ScOk s) : GivesP tb 42 [.agg cs.toArray] w Z (ScR (tmRestore s)) := by
 replace hs := scv_cz hs
 obtain ⟨a1, l1, c1, a2, l2, c2, rfl⟩ := scv_agg hs
 obtain ⟨k1, k2⟩ := ok_lens ok0
 refine givesP_of (fn := Try.f42) Try.func42 rfl Try.ntmps42 rfl hZ scR_mono (fun on => ?_)
 repeat refine s_seqs ?_
 refine s_reg ?_
 refine step_box_agg rfl rfl (fun b1 => ?_)
 refine step_alloc rfl zero32 (fun b2 => ?_)
 refine Vc.step_end (fun a w ok => ?_)
 first | (refine WPs.run ?_ a w ok; clear ok w a) | skip
 repeat refine s_seqs ?_
 refine s_reg ?_
 refine step_pure rfl (pure_load_agg (i := 1) rfl rfl rfl rfl rfl (Nat.le_of_ble_eq_true rfl) rfl) ?_
 refine step_pure rfl (pure_fieldAddr rfl rfl rfl rfl rfl (by decide)) ?_
 first | refine step_pure rfl (pure_ix rfl rfl rfl rfl rfl (by decide) (by decide) rfl) ?_ | refine step_pure rfl (pure_ix rfl rfl rfl rfl rfl (by omega) (by omega) rfl) ?_
 refine step_pure rfl (pure_load (i := 1) rfl rfl rfl rfl rfl rfl) ?_
 refine step_pure rfl (pure_fieldAddr rfl rfl rfl rfl rfl (by decide)) ?_
 first | refine step_pure rfl (pure_ix rfl rfl rfl rfl rfl (by decide) (by decide) rfl) ?_ | refine step_pure rfl (pure_ix rfl rfl rfl rfl rfl (by omega) (by omega) rfl) ?_
 refine step_pure rfl (pure_load (i := 1) rfl rfl rfl rfl rfl rfl) ?_
 refine step_givesP on.sc rfl fun14 rfl (fun w' Z' hh kp hZ hC => move_P s _ s.s0 s.s1 w' hZ (hs.mono (Cz.now kp)) k1 k2) ?_
 rintro u E5 g ⟨cs', rfl, hs'⟩
 replace on := on.next g
 try rw [doF_ok ok0] at hs'
 obtain ⟨hl5, ho5⟩ := scv_form hs'
 obtain ⟨a3, l3, c3, a4, l4, c4, rfl⟩ := scv_agg hs'
 refine step_alloc rfl zero32 (fun b3 => ?_)
 refine step_store_agg 0 rfl rfl rfl ho5 rfl hl5 rfl rfl (Nat.le_of_ble_eq_true rfl) (show _ = scC (moveF s.s0 s.s1 s) (.slice a3 l3 c3) (.slice a4 l4 c4) from rfl) ?_
 refine Vc.step_end (fun a w ok => ?_)
 first | (refine WPs.run ?_ a w ok; clear ok w a) | skip
 repeat refine s_seqs ?_
 refine s_reg ?_
 refine step_pure rfl (pure_fieldAddr rfl rfl rfl rfl rfl (by decide)) ?_
 first | refine step_pure rfl (pure_ix rfl rfl rfl rfl rfl (by decide) (by decide) rfl) ?_ | refine step_pure rfl (pure_ix rfl rfl rfl rfl rfl (by omega) (by omega) rfl) ?_
 refine step_pure rfl (pure_load (i := 2) rfl rfl rfl rfl rfl rfl) ?_
 refine step_pure rfl (pure_fieldAddr rfl rfl rfl rfl rfl (by decide)) ?_
 refine step_store 0 rfl rfl rfl rfl rfl rfl rfl rfl (Nat.le_of_ble_eq_true rfl) (show _ = scC (tmRestore s) (.slice a3 l3 c3) (.slice a4 l4 c4) from rfl) ?_
 refine Vc.step_end (fun a w ok => ?_)
 first | (refine WPs.run ?_ a w ok; clear ok w a) | skip
 repeat refine s_seqs ?_
 refine s_reg ?_
 refine step_pure rfl (pure_load_agg (i := 0) rfl rfl rfl rfl rfl (Nat.le_of_ble_eq_true rfl) rfl) ?_
 refine step_store_agg 1 rfl rfl rfl (of_one rfl) rfl rfl rfl rfl (Nat.le_of_ble_eq_true rfl) (show _ = scC (tmRestore s) (.slice a3 l3 c3) (.slice a4 l4 c4) from rfl) ?_
 refine Vc.step_end (fun a w ok => ?_)
 first | (refine WPs.run ?_ a w ok; clear ok w a) | skip
 exact s_ret fun a w ok => ends_givesP on (.inr rfl) ok (res_cell_agg (i := 1) Try.results42 rfl rfl rfl rfl rfl (Nat.le_of_ble_eq_true rfl) rfl) scR_mono ⟨_, rfl, scv_to hs' rfl rfl⟩
set_option maxHeartbeats 1000000 in
theorem control_S (s : Scr) (cs : List Value) (n : Int) (w : World) {Z : Nat → Prop} (hZ : ∀ j, w.heap.size ≤ j → Z j) (hs : ScV (AtZ w Z) s cs) (ok0 : ScOk s) : GivesP tb 24 [.agg cs.toArray, .int .i64 n] w Z (ScR (tmControl n s)) := by
 replace hs := hs.mono cz_start
 obtain ⟨a1, l1, c1, a2, l2, c2, rfl⟩ := scv_agg hs
 obtain ⟨k1, k2⟩ := ok_lens ok0
 have hW := ok0.w
 have hH := ok0.h
 have hX := ok0.x
 have hY := ok0.y
 refine givesP_of (fn := Try.f24) Try.func24 rfl Try.ntmps24 rfl hZ scR_mono (fun on => ?_)
 unfold tmControl
 repeat refine s_seqs ?_
 refine s_reg ?_
 refine step_box_agg rfl rfl (fun b2 => ?_)
 refine step_alloc rfl zero32 (fun b4 => ?_)
 refine Vc.step_end (fun a w ok => ?_)
 first | (refine WPs.run ?_ a w ok; clear ok w a) | skip
 repeat refine s_seqs ?_
 refine s_reg ?_
 refine qm rfl rfl ?_
 refine Vc.step_end (fun a w ok => ?_)
 first | (refine WPs.run ?_ a w ok; clear ok w a) | skip
 repeat refine s_seqs ?_
 refine s_block ?_
 repeat refine s_seqs ?_
 refine s_reg ?_
 refine step_pure rfl (pure_eql rfl rfl) ?_
 refine qa rfl rfl ?_
 refine Vc.step_end (fun a w ok => ?_)
 first | (refine WPs.run ?_ a w ok; clear ok w a) | skip
 repeat refine s_seqs ?_
 refine s_cond rfl (fun h => ?_) (fun h => ?_)
 ·rw [if_pos (beq_iff_eq.1 h)]
  repeat refine s_seqs ?_
  refine s_reg ?_
  refine step_pure rfl (pure_load_agg (i := 1) rfl rfl rfl rfl rfl (Nat.le_of_ble_eq_true rfl) rfl) ?_
  refine step_pure rfl (pure_fieldAddr rfl rfl rfl rfl rfl (by decide)) ?_
  refine step_pure rfl (pure_load (i := 1) rfl rfl rfl rfl rfl rfl) ?_
  first | refine step_pure rfl (pure_sub64 rfl rfl (by omega) (by omega)) ?_ | refine step_pure rfl (pure_sub rfl rfl) ?_
  refine step_pure rfl (pure_fieldAddr rfl rfl rfl rfl rfl (by decide)) ?_
  refine step_pure rfl (pure_load (i := 1) rfl rfl rfl rfl rfl rfl) ?_
  refine step_givesP on.sc rfl fun14 rfl (fun w' Z' hh kp hZ hC => move_P s _ (s.X - 1) (s.Y) w' hZ (hs.mono (Cz.now kp)) k1 k2) ?_
  rintro u E5 g ⟨cs', rfl, hs'⟩
  replace on := on.next g
  try rw [doF_ok ok0] at hs'
  obtain ⟨hl5, ho5⟩ := scv_form hs'
  refine step_store_agg 0 rfl rfl rfl ho5 rfl hl5 rfl rfl (Nat.le_of_ble_eq_true rfl) (splice_all hl5) ?_
  refine Vc.step_end (fun a w ok => ?_)
  first | (refine WPs.run ?_ a w ok; clear ok w a) | skip
  exact s_ret fun a w ok => ends_givesP on (.inr rfl) ok (res_cell_agg (i := 0) Try.results24 rfl rfl rfl rfl rfl (by show 0 + 16 ≤ cs'.length; omega) (load_all hl5)) scR_mono ⟨cs', rfl, hs'⟩
 rw [if_neg (by intro e; rw [e] at h; cases h)]
 clear h
 repeat refine s_seqs ?_
 refine s_reg ?_
 refine step_pure rfl (pure_eql rfl rfl) ?_
 refine qa rfl rfl ?_
 refine Vc.step_end (fun a w ok => ?_)
 first | (refine WPs.run ?_ a w ok; clear ok w a) | skip
 repeat refine s_seqs ?_
 refine s_cond rfl (fun h => ?_) (fun h => ?_)
 ·rw [if_pos (beq_iff_eq.1 h)]
  repeat refine s_seqs ?_
  refine s_reg ?_
  refine step_pure rfl (pure_load_agg (i := 1) rfl rfl rfl rfl rfl (Nat.le_of_ble_eq_true rfl) rfl) ?_
  refine step_pure rfl (pure_fieldAddr rfl rfl rfl rfl rfl (by decide)) ?_
  refine step_pure rfl (pure_load (i := 1) rfl rfl rfl rfl rfl rfl) ?_
  first | refine step_pure rfl (pure_quo_pos rfl rfl (by omega) (by omega) (by decide)) ?_ | refine step_pure rfl (pure_quo rfl rfl (by decide)) ?_
  first | refine step_pure rfl (pure_add64 rfl rfl (by omega) (by omega)) ?_ | refine step_pure rfl (pure_add rfl rfl) ?_
  first | refine step_pure rfl (pure_mul64 rfl rfl (by omega) (by omega)) ?_ | refine step_pure rfl (pure_mul rfl rfl) ?_
  refine step_pure rfl (pure_fieldAddr rfl rfl rfl rfl rfl (by decide)) ?_
  refine step_pure rfl (pure_load (i := 1) rfl rfl rfl rfl rfl rfl) ?_
  refine step_givesP on.sc rfl fun14 rfl (fun w' Z' hh kp hZ hC => move_P s _ ((s.X / 8 + 1) * 8) (s.Y) w' hZ (hs.mono (Cz.now kp)) k1 k2) ?_
  rintro u E5 g ⟨cs', rfl, hs'⟩
  replace on := on.next g
  try rw [doF_ok ok0] at hs'
  obtain ⟨hl5, ho5⟩ := scv_form hs'
  refine step_store_agg 0 rfl rfl rfl ho5 rfl hl5 rfl rfl (Nat.le_of_ble_eq_true rfl) (splice_all hl5) ?_
  refine Vc.step_end (fun a w ok => ?_)
  first | (refine WPs.run ?_ a w ok; clear ok w a) | skip
  exact s_ret fun a w ok => ends_givesP on (.inr rfl) ok (res_cell_agg (i := 0) Try.results24 rfl rfl rfl rfl rfl (by show 0 + 16 ≤ cs'.length; omega) (load_all hl5)) scR_mono ⟨cs', rfl, hs'⟩
 rw [if_neg (by intro e; rw [e] at h; cases h)]
 clear h
 repeat refine s_seqs ?_
 refine s_reg ?_
 refine step_pure rfl (pure_eql rfl rfl) ?_
 refine qa rfl rfl ?_
 refine Vc.step_end (fun a w ok => ?_)
 first | (refine WPs.run ?_ a w ok; clear ok w a) | skip
 repeat refine s_seqs ?_
 refine s_meet [(1, .int .i64 n), (2, .pointer (some ⟨b2, 0, none⟩)), (4, .pointer (some ⟨b4, 0, none⟩)), (5, .int .i64 n), (26, .bool (decide (n = 10 ∨ n = 11 ∨ n = 12)))] [⟨b4, scC zScr (.slice none 0 0) (.slice none 0 0), tSc⟩, ⟨b2, scC s (.slice a1 l1 c1) (.slice a2 l2 c2), tSc⟩] ?_ (fun a w ok => WPs.run ?_ a w ok)
 ·repeat refine c_seq ?_
  refine c_cond rfl (fun h => ?_) (fun h => ?_)
  ·refine c_skip (less_of ⟨rfl, rfl, rfl, rfl, ?_, trivial⟩ rfl)
   rw [decide_eq_true (Or.inl (beq_iff_eq.1 h)), h]
   rfl
  ·repeat refine c_seq ?_
   refine c_region ?_
   refine step_pure rfl (pure_eql rfl rfl) ?_
   refine qa rfl rfl ?_
   refine step_nil ?_
   repeat refine c_seq ?_
   refine c_cond rfl (fun h2 => ?_) (fun h2 => ?_)
   ·refine c_skip (less_of ⟨rfl, rfl, rfl, rfl, ?_, trivial⟩ rfl)
    rw [decide_eq_true (Or.inr (Or.inl (beq_iff_eq.1 h2))), h2]
    rfl
   ·repeat refine c_seq ?_
    refine c_region ?_
    refine step_pure rfl (pure_eql rfl rfl) ?_
    refine qa rfl rfl ?_
    refine step_nil ?_
    refine less_of ⟨rfl, rfl, rfl, rfl, ?_, trivial⟩ rfl
    refine congrArg some (congrArg Value.bool ?_)
    have h : ¬ n = 10 := by intro e; rw [e] at h; cases h
    have h2 : ¬ n = 11 := by intro e; rw [e] at h2; cases h2
    rw [Bool.eq_iff_iff, beq_iff_eq, decide_eq_true_iff]
    omega
 repeat refine s_seqs ?_
 refine s_cond rfl (fun h => ?_) (fun h => ?_)
 ·rw [if_pos (of_decide_eq_true h)]
  repeat refine s_seqs ?_
  refine s_reg ?_
  refine step_pure rfl (pure_load_agg (i := 1) rfl rfl rfl rfl rfl (Nat.le_of_ble_eq_true rfl) rfl) ?_
  refine step_givesP on.sc rfl fun39 rfl (fun w' Z' hh kp hZ hC => down_P s _ w' hZ (hs.mono (Cz.now kp)) k1 k2) ?_
  rintro u E5 g ⟨cs', rfl, hs'⟩
  replace on := on.next g
  try rw [doF_ok ok0] at hs'
  obtain ⟨hl5, ho5⟩ := scv_form hs'
  refine step_store_agg 0 rfl rfl rfl ho5 rfl hl5 rfl rfl (Nat.le_of_ble_eq_true rfl) (splice_all hl5) ?_
  refine Vc.step_end (fun a w ok => ?_)
  first | (refine WPs.run ?_ a w ok; clear ok w a) | skip
  exact s_ret fun a w ok => ends_givesP on (.inr rfl) ok (res_cell_agg (i := 0) Try.results24 rfl rfl rfl rfl rfl (by show 0 + 16 ≤ cs'.length; omega) (load_all hl5)) scR_mono ⟨cs', rfl, hs'⟩
 rw [if_neg (of_decide_eq_false h)]
 clear h
 repeat refine s_seqs ?_
 refine s_reg ?_
 refine step_pure rfl (pure_eql rfl rfl) ?_
 refine qa rfl rfl ?_
 refine Vc.step_end (fun a w ok => ?_)
 first | (refine WPs.run ?_ a w ok; clear ok w a) | skip
 repeat refine s_seqs ?_
 refine s_cond rfl (fun h => ?_) (fun h => ?_)
 ·rw [if_pos (beq_iff_eq.1 h)]
  repeat refine s_seqs ?_
  refine s_reg ?_
  refine step_pure rfl (pure_load_agg (i := 1) rfl rfl rfl rfl rfl (Nat.le_of_ble_eq_true rfl) rfl) ?_
  refine step_pure rfl (pure_fieldAddr rfl rfl rfl rfl rfl (by decide)) ?_
  refine step_pure rfl (pure_load (i := 1) rfl rfl rfl rfl rfl rfl) ?_
  refine step_givesP on.sc rfl fun14 rfl (fun w' Z' hh kp hZ hC => move_P s _ (0) (s.Y) w' hZ (hs.mono (Cz.now kp)) k1 k2) ?_
  rintro u E5 g ⟨cs', rfl, hs'⟩
  replace on := on.next g
  try rw [doF_ok ok0] at hs'
  obtain ⟨hl5, ho5⟩ := scv_form hs'
  refine step_store_agg 0 rfl rfl rfl ho5 rfl hl5 rfl rfl (Nat.le_of_ble_eq_true rfl) (splice_all hl5) ?_
  refine Vc.step_end (fun a w ok => ?_)
  first | (refine WPs.run ?_ a w ok; clear ok w a) | skip
  exact s_ret fun a w ok => ends_givesP on (.inr rfl) ok (res_cell_agg (i := 0) Try.results24 rfl rfl rfl rfl rfl (by show 0 + 16 ≤ cs'.length; omega) (load_all hl5)) scR_mono ⟨cs', rfl, hs'⟩
 rw [if_neg (by intro e; rw [e] at h; cases h)]
 clear h
 refine s_skip fun a w ok => WPs.run ?_ a w ok
 clear ok w a
 repeat refine s_seqs ?_
 refine s_reg ?_
 refine step_pure rfl (pure_load_agg (i := 1) rfl rfl rfl rfl rfl (Nat.le_of_ble_eq_true rfl) rfl) ?_
 refine step_store_agg 0 rfl rfl rfl (of_one rfl) rfl rfl rfl rfl (Nat.le_of_ble_eq_true rfl) (show _ = scC s (.slice a1 l1 c1) (.slice a2 l2 c2) from rfl) ?_
 refine Vc.step_end (fun a w ok => ?_)
 first | (refine WPs.run ?_ a w ok; clear ok w a) | skip
 exact s_ret fun a w ok => ends_givesP on (.inr rfl) ok (res_cell_agg (i := 0) Try.results24 rfl rfl rfl rfl rfl (Nat.le_of_ble_eq_true rfl) rfl) scR_mono ⟨_, rfl, hs⟩
set_option maxHeartbeats 1000000 in
theorem escaped_S (s : Scr) (cs : List Value) (n : Int) (w : World) {Z : Nat → Prop} (hZ : ∀ j, w.heap.size ≤ j → Z j) (hs : ScV (AtZ w Z) s cs) (ok0 : ScOk s) : GivesP tb 25 [.agg cs.toArray, .int .i64 n] w Z (ScR (tmEscaped n s)) := by
 replace hs := hs.mono cz_start
 obtain ⟨a1, l1, c1, a2, l2, c2, rfl⟩ := scv_agg hs
 obtain ⟨k1, k2⟩ := ok_lens ok0
 have hW := ok0.w
 have hH := ok0.h
 have hX := ok0.x
 have hY := ok0.y
 refine givesP_of (fn := Try.f25) Try.func25 rfl Try.ntmps25 rfl hZ scR_mono (fun on => ?_)
 unfold tmEscaped
 repeat refine s_seqs ?_
 refine s_reg ?_
 refine step_box_agg rfl rfl (fun b2 => ?_)
 refine step_alloc rfl zero32 (fun b4 => ?_)
 refine Vc.step_end (fun a w ok => ?_)
 first | (refine WPs.run ?_ a w ok; clear ok w a) | skip
 repeat refine s_seqs ?_
 refine s_reg ?_
 refine qm rfl rfl ?_
 refine Vc.step_end (fun a w ok => ?_)
 first | (refine WPs.run ?_ a w ok; clear ok w a) | skip
 repeat refine s_seqs ?_
 refine s_block ?_
 repeat refine s_seqs ?_
 refine s_reg ?_
 refine step_pure rfl (pure_eql rfl rfl) ?_
 refine qa rfl rfl ?_
 refine Vc.step_end (fun a w ok => ?_)
 first | (refine WPs.run ?_ a w ok; clear ok w a) | skip
 repeat refine s_seqs ?_
 refine s_cond rfl (fun h => ?_) (fun h => ?_)
 ·rw [if_pos (beq_iff_eq.1 h)]
  repeat refine s_seqs ?_
  refine s_reg ?_
  refine step_pure rfl (pure_load_agg (i := 1) rfl rfl rfl rfl rfl (Nat.le_of_ble_eq_true rfl) rfl) ?_
  refine step_givesP on.sc rfl fun39 rfl (fun w' Z' hh kp hZ hC => down_P s _ w' hZ (hs.mono (Cz.now kp)) k1 k2) ?_
  rintro u E5 g ⟨cs', rfl, hs'⟩
  replace on := on.next g
  try rw [doF_ok ok0] at hs'
  obtain ⟨hl5, ho5⟩ := scv_form hs'
  refine step_store_agg 0 rfl rfl rfl ho5 rfl hl5 rfl rfl (Nat.le_of_ble_eq_true rfl) (splice_all hl5) ?_
  refine Vc.step_end (fun a w ok => ?_)
  first | (refine WPs.run ?_ a w ok; clear ok w a) | skip
  exact s_ret fun a w ok => ends_givesP on (.inr rfl) ok (res_cell_agg (i := 0) Try.results25 rfl rfl rfl rfl rfl (by show 0 + 16 ≤ cs'.length; omega) (load_all hl5)) scR_mono ⟨cs', rfl, hs'⟩
 rw [if_neg (by intro e; rw [e] at h; cases h)]
 clear h
 repeat refine s_seqs ?_
 refine s_reg ?_
 refine step_pure rfl (pure_eql rfl rfl) ?_
 refine qa rfl rfl ?_
 refine Vc.step_end (fun a w ok => ?_)
 first | (refine WPs.run ?_ a w ok; clear ok w a) | skip
 repeat refine s_seqs ?_
 refine s_cond rfl (fun h => ?_) (fun h => ?_)
 ·rw [if_pos (beq_iff_eq.1 h)]
  have ok1 := moveF_ok ok0 0 s.Y
  obtain ⟨k3, k4⟩ := ok_lens ok1
  repeat refine s_seqs ?_
  refine s_reg ?_
  refine step_pure rfl (pure_load_agg (i := 1) rfl rfl rfl rfl rfl (Nat.le_of_ble_eq_true rfl) rfl) ?_
  refine step_pure rfl (pure_fieldAddr rfl rfl rfl rfl rfl (by decide)) ?_
  refine step_pure rfl (pure_load (i := 1) rfl rfl rfl rfl rfl rfl) ?_
  refine step_givesP on.sc rfl fun14 rfl (fun w' Z' hh kp hZ hC => move_P s _ (0) (s.Y) w' hZ (hs.mono (Cz.now kp)) k1 k2) ?_
  rintro u E5 g ⟨cs5, rfl, hs5⟩
  replace on := on.next g
  rw [doF_ok ok0] at hs5
  refine step_givesP on.sc rfl fun39 rfl (fun w' Z' hh kp hZ hC => down_P (moveF 0 s.Y s) cs5 w' hZ (hs5.mono (Cz.now kp)) k3 k4) ?_
  rintro u E6 g ⟨cs', rfl, hs'⟩
  replace on := on.next g
  rw [doF_ok ok1] at hs'
  obtain ⟨hl5, ho5⟩ := scv_form hs'
  refine step_store_agg 0 rfl rfl rfl ho5 rfl hl5 rfl rfl (Nat.le_of_ble_eq_true rfl) (splice_all hl5) ?_
  refine Vc.step_end (fun a w ok => ?_)
  first | (refine WPs.run ?_ a w ok; clear ok w a) | skip
  exact s_ret fun a w ok => ends_givesP on (.inr rfl) ok (res_cell_agg (i := 0) Try.results25 rfl rfl rfl rfl rfl (by show 0 + 16 ≤ cs'.length; omega) (load_all hl5)) scR_mono ⟨cs', rfl, hs'⟩
 rw [if_neg (by intro e; rw [e] at h; cases h)]
 clear h
 repeat refine s_seqs ?_
 refine s_reg ?_
 refine step_pure rfl (pure_eql rfl rfl) ?_
 refine qa rfl rfl ?_
 refine Vc.step_end (fun a w ok => ?_)
 first | (refine WPs.run ?_ a w ok; clear ok w a) | skip
 repeat refine s_seqs ?_
 refine s_cond rfl (fun h => ?_) (fun h => ?_)
 ·rw [if_pos (beq_iff_eq.1 h)]
  repeat refine s_seqs ?_
  refine s_reg ?_
  refine step_pure rfl (pure_load_agg (i := 1) rfl rfl rfl rfl rfl (Nat.le_of_ble_eq_true rfl) rfl) ?_
  refine step_givesP on.sc rfl fun40 rfl (fun w' Z' hh kp hZ hC => up_P s _ w' hZ (hs.mono (Cz.now kp)) k1 k2) ?_
  rintro u E5 g ⟨cs', rfl, hs'⟩
  replace on := on.next g
  try rw [doF_ok ok0] at hs'
  obtain ⟨hl5, ho5⟩ := scv_form hs'
  refine step_store_agg 0 rfl rfl rfl ho5 rfl hl5 rfl rfl (Nat.le_of_ble_eq_true rfl) (splice_all hl5) ?_
  refine Vc.step_end (fun a w ok => ?_)
  first | (refine WPs.run ?_ a w ok; clear ok w a) | skip
  exact s_ret fun a w ok => ends_givesP on (.inr rfl) ok (res_cell_agg (i := 0) Try.results25 rfl rfl rfl rfl rfl (by show 0 + 16 ≤ cs'.length; omega) (load_all hl5)) scR_mono ⟨cs', rfl, hs'⟩
 rw [if_neg (by intro e; rw [e] at h; cases h)]
 clear h
 repeat refine s_seqs ?_
 refine s_reg ?_
 refine step_pure rfl (pure_eql rfl rfl) ?_
 refine qa rfl rfl ?_
 refine Vc.step_end (fun a w ok => ?_)
 first | (refine WPs.run ?_ a w ok; clear ok w a) | skip
 repeat refine s_seqs ?_
 refine s_cond rfl (fun h => ?_) (fun h => ?_)
 ·rw [if_pos (beq_iff_eq.1 h)]
  repeat refine s_seqs ?_
  refine s_reg ?_
  refine step_pure rfl (pure_load_agg (i := 1) rfl rfl rfl rfl rfl (Nat.le_of_ble_eq_true rfl) rfl) ?_
  refine step_givesP on.sc rfl fun41 rfl (fun w' Z' hh kp hZ hC => save_S s _ w' hZ (hs.mono hC) ok0) ?_
  rintro u E5 g ⟨cs', rfl, hs'⟩
  replace on := on.next g
  try rw [doF_ok ok0] at hs'
  obtain ⟨hl5, ho5⟩ := scv_form hs'
  refine step_store_agg 0 rfl rfl rfl ho5 rfl hl5 rfl rfl (Nat.le_of_ble_eq_true rfl) (splice_all hl5) ?_
  refine Vc.step_end (fun a w ok => ?_)
  first | (refine WPs.run ?_ a w ok; clear ok w a) | skip
  exact s_ret fun a w ok => ends_givesP on (.inr rfl) ok (res_cell_agg (i := 0) Try.results25 rfl rfl rfl rfl rfl (by show 0 + 16 ≤ cs'.length; omega) (load_all hl5)) scR_mono ⟨cs', rfl, hs'⟩
 rw [if_neg (by intro e; rw [e] at h; cases h)]
 clear h
 repeat refine s_seqs ?_
 refine s_reg ?_
 refine step_pure rfl (pure_eql rfl rfl) ?_
 refine qa rfl rfl ?_
 refine Vc.step_end (fun a w ok => ?_)
 first | (refine WPs.run ?_ a w ok; clear ok w a) | skip
 repeat refine s_seqs ?_
 refine s_cond rfl (fun h => ?_) (fun h => ?_)
 ·rw [if_pos (beq_iff_eq.1 h)]
  repeat refine s_seqs ?_
  refine s_reg ?_
  refine step_pure rfl (pure_load_agg (i := 1) rfl rfl rfl rfl rfl (Nat.le_of_ble_eq_true rfl) rfl) ?_
  refine step_givesP on.sc rfl fun42 rfl (fun w' Z' hh kp hZ hC => restore_S s _ w' hZ (hs.mono (Cz.now kp)) ok0) ?_
  rintro u E5 g ⟨cs', rfl, hs'⟩
  replace on := on.next g
  try rw [doF_ok ok0] at hs'
  obtain ⟨hl5, ho5⟩ := scv_form hs'
  refine step_store_agg 0 rfl rfl rfl ho5 rfl hl5 rfl rfl (Nat.le_of_ble_eq_true rfl) (splice_all hl5) ?_
  refine Vc.step_end (fun a w ok => ?_)
  first | (refine WPs.run ?_ a w ok; clear ok w a) | skip
  exact s_ret fun a w ok => ends_givesP on (.inr rfl) ok (res_cell_agg (i := 0) Try.results25 rfl rfl rfl rfl rfl (by show 0 + 16 ≤ cs'.length; omega) (load_all hl5)) scR_mono ⟨cs', rfl, hs'⟩
 rw [if_neg (by intro e; rw [e] at h; cases h)]
 clear h
 repeat refine s_seqs ?_
 refine s_reg ?_
 refine step_pure rfl (pure_eql rfl rfl) ?_
 refine qa rfl rfl ?_
 refine Vc.step_end (fun a w ok => ?_)
 first | (refine WPs.run ?_ a w ok; clear ok w a) | skip
 repeat refine s_seqs ?_
 refine s_cond rfl (fun h => ?_) (fun h => ?_)
 ·rw [if_pos (beq_iff_eq.1 h)]
  repeat refine s_seqs ?_
  refine s_reg ?_
  refine step_pure rfl (pure_fieldAddr rfl rfl rfl rfl rfl (by decide)) ?_
  refine step_pure rfl (pure_load (i := 1) rfl rfl rfl rfl rfl rfl) ?_
  refine step_pure rfl (pure_fieldAddr rfl rfl rfl rfl rfl (by decide)) ?_
  refine step_pure rfl (pure_load (i := 1) rfl rfl rfl rfl rfl rfl) ?_
  refine step_givesP on.sc rfl fun31 rfl (fun w' Z' hh kp hZ hC => new_P s.W s.H w' hZ) ?_
  rintro u E5 g ⟨cs', rfl, hs'⟩
  replace on := on.next g
  try rw [doF_ok ok0] at hs'
  obtain ⟨hl5, ho5⟩ := scv_form hs'
  refine qm rfl rfl ?_
  refine qx rfl rfl rfl ?_
  refine qx rfl rfl rfl ?_
  refine step_store_agg 1 rfl rfl rfl ho5 rfl hl5 rfl rfl (Nat.le_of_ble_eq_true rfl) (splice_all hl5) ?_
  refine Vc.step_end (fun a w ok => ?_)
  first | (refine WPs.run ?_ a w ok; clear ok w a) | skip
  repeat refine s_seqs ?_
  refine s_reg ?_
  refine step_pure rfl (pure_load_agg (i := 1) (vs := cs') rfl rfl rfl rfl rfl (by show 0 + 16 ≤ cs'.length; omega) (load_all hl5)) ?_
  refine step_store_agg 0 rfl rfl rfl ho5 rfl hl5 rfl rfl (Nat.le_of_ble_eq_true rfl) (splice_all hl5) ?_
  refine Vc.step_end (fun a w ok => ?_)
  first | (refine WPs.run ?_ a w ok; clear ok w a) | skip
  exact s_ret fun a w ok => ends_givesP on (.inr rfl) ok (res_cell_agg (i := 0) Try.results25 rfl rfl rfl rfl rfl (by show 0 + 16 ≤ cs'.length; omega) (load_all hl5)) scR_mono ⟨cs', rfl, hs'⟩
 rw [if_neg (by intro e; rw [e] at h; cases h)]
 clear h
 refine s_skip fun a w ok => WPs.run ?_ a w ok
 clear ok w a
 repeat refine s_seqs ?_
 refine s_reg ?_
 refine step_pure rfl (pure_load_agg (i := 1) rfl rfl rfl rfl rfl (Nat.le_of_ble_eq_true rfl) rfl) ?_
 refine step_store_agg 0 rfl rfl rfl (of_one rfl) rfl rfl rfl rfl (Nat.le_of_ble_eq_true rfl) (show _ = scC s (.slice a1 l1 c1) (.slice a2 l2 c2) from rfl) ?_
 refine Vc.step_end (fun a w ok => ?_)
 first | (refine WPs.run ?_ a w ok; clear ok w a) | skip
 exact s_ret fun a w ok => ends_givesP on (.inr rfl) ok (res_cell_agg (i := 0) Try.results25 rfl rfl rfl rfl rfl (Nat.le_of_ble_eq_true rfl) rfl) scR_mono ⟨_, rfl, hs⟩
set_option maxHeartbeats 1000000 in
theorem mode_S (s : Scr) (cs : List Value) (n : Int) (on_ : Bool) (w : World) {Z : Nat → Prop} (hZ : ∀ j, w.heap.size ≤ j → Z j) (hs : ScV (AtZ w Z) s cs) (ok0 : ScOk s) : GivesP tb 28 [.agg cs.toArray, .int .i64 n, .bool on_] w Z (ScR (tmMode n on_ s)) := by
 replace hs := hs.mono cz_start
 obtain ⟨a1, l1, c1, a2, l2, c2, rfl⟩ := scv_agg hs
 obtain ⟨k1, k2⟩ := ok_lens ok0
 refine givesP_of (fn := Try.f28) Try.func28 rfl Try.ntmps28 rfl hZ scR_mono (fun on => ?_)
 unfold tmMode
 repeat refine s_seqs ?_
 refine s_reg ?_
 refine step_box_agg rfl rfl (fun b3 => ?_)
 refine step_alloc rfl zero32 (fun b6 => ?_)
 refine Vc.step_end (fun a w ok => ?_)
 first | (refine WPs.run ?_ a w ok; clear ok w a) | skip
 repeat refine s_seqs ?_
 refine s_block ?_
 repeat refine s_seqs ?_
 refine s_reg ?_
 refine qm rfl rfl ?_
 refine step_pure rfl (pure_eql rfl rfl) ?_
 refine qa rfl rfl ?_
 refine Vc.step_end (fun a w ok => ?_)
 first | (refine WPs.run ?_ a w ok; clear ok w a) | skip
 repeat refine s_seqs ?_
 refine s_cond rfl (fun h => ?_) (fun h => ?_)
 ·rw [if_pos (beq_iff_eq.1 h)]
  repeat refine s_seqs ?_
  refine s_reg ?_
  refine qm rfl rfl ?_
  refine step_pure rfl (pure_fieldAddr rfl rfl rfl rfl rfl (by decide)) ?_
  refine step_store 1 rfl rfl rfl rfl rfl rfl rfl rfl (Nat.le_of_ble_eq_true rfl) (show _ = scC { s with auto := on_ } (.slice a1 l1 c1) (.slice a2 l2 c2) from rfl) ?_
  refine Vc.step_end (fun a w ok => ?_)
  first | (refine WPs.run ?_ a w ok; clear ok w a) | skip
  repeat refine s_seqs ?_
  refine s_reg ?_
  refine step_pure rfl (pure_load_agg (i := 1) rfl rfl rfl rfl rfl (Nat.le_of_ble_eq_true rfl) rfl) ?_
  refine step_store_agg 0 rfl rfl rfl (of_one rfl) rfl rfl rfl rfl (Nat.le_of_ble_eq_true rfl) (show _ = scC { s with auto := on_ } (.slice a1 l1 c1) (.slice a2 l2 c2) from rfl) ?_
  refine Vc.step_end (fun a w ok => ?_)
  first | (refine WPs.run ?_ a w ok; clear ok w a) | skip
  exact s_ret fun a w ok => ends_givesP on (.inr rfl) ok (res_cell_agg (i := 0) Try.results28 rfl rfl rfl rfl rfl (Nat.le_of_ble_eq_true rfl) rfl) scR_mono ⟨_, rfl, scv_to hs rfl rfl⟩
 rw [if_neg (by intro e; rw [e] at h; cases h)]
 clear h
 repeat refine s_seqs ?_
 refine s_reg ?_
 refine qm rfl rfl ?_
 refine step_pure rfl (pure_eql rfl rfl) ?_
 refine qa rfl rfl ?_
 refine Vc.step_end (fun a w ok => ?_)
 first | (refine WPs.run ?_ a w ok; clear ok w a) | skip
 repeat refine s_seqs ?_
 refine s_cond rfl (fun h => ?_) (fun h => ?_)
 ·rw [if_pos (beq_iff_eq.1 h)]
  repeat refine s_seqs ?_
  refine s_reg ?_
  refine qm rfl rfl ?_
  refine step_pure rfl (pure_not rfl) ?_
  refine step_pure rfl (pure_fieldAddr rfl rfl rfl rfl rfl (by decide)) ?_
  refine step_store 1 rfl rfl rfl rfl rfl rfl rfl rfl (Nat.le_of_ble_eq_true rfl) (show _ = scC { s with hid := !on_ } (.slice a1 l1 c1) (.slice a2 l2 c2) from rfl) ?_
  refine Vc.step_end (fun a w ok => ?_)
  first | (refine WPs.run ?_ a w ok; clear ok w a) | skip
  repeat refine s_seqs ?_
  refine s_reg ?_
  refine step_pure rfl (pure_load_agg (i := 1) rfl rfl rfl rfl rfl (Nat.le_of_ble_eq_true rfl) rfl) ?_
  refine step_store_agg 0 rfl rfl rfl (of_one rfl) rfl rfl rfl rfl (Nat.le_of_ble_eq_true rfl) (show _ = scC { s with hid := !on_ } (.slice a1 l1 c1) (.slice a2 l2 c2) from rfl) ?_
  refine Vc.step_end (fun a w ok => ?_)
  first | (refine WPs.run ?_ a w ok; clear ok w a) | skip
  exact s_ret fun a w ok => ends_givesP on (.inr rfl) ok (res_cell_agg (i := 0) Try.results28 rfl rfl rfl rfl rfl (Nat.le_of_ble_eq_true rfl) rfl) scR_mono ⟨_, rfl, scv_to hs rfl rfl⟩
 rw [if_neg (by intro e; rw [e] at h; cases h)]
 clear h
 repeat refine s_seqs ?_
 refine s_meet [(1, .int .i64 n), (2, .bool on_), (3, .pointer (some ⟨b3, 0, none⟩)), (6, .pointer (some ⟨b6, 0, none⟩)), (18, .bool (decide (n = 1049 ∧ on_ = true ∧ s.alt = false)))] [⟨b6, scC zScr (.slice none 0 0) (.slice none 0 0), tSc⟩, ⟨b3, scC s (.slice a1 l1 c1) (.slice a2 l2 c2), tSc⟩] ?_ (fun a w ok => WPs.run ?_ a w ok)
 ·clear hs k1 k2 ok0
  repeat refine c_seq ?_
  refine c_region ?_
  refine qm rfl rfl ?_
  refine step_pure rfl (pure_eql rfl rfl) ?_
  refine qm rfl rfl ?_
  refine step_split (t := 21) rfl (fun h21 => ?_) (fun h21 => ?_)
  ·refine qm rfl rfl ?_
   refine step_pure rfl (pure_pick_yes rfl rfl) ?_
   refine qm rfl rfl ?_
   refine step_split (t := 24) rfl (fun h24 => ?_) (fun h24 => ?_)
   ·refine step_pure rfl (pure_fieldAddr rfl rfl rfl rfl rfl (by decide)) ?_
    refine step_pure rfl (pure_load (i := 1) rfl rfl rfl rfl rfl rfl) ?_
    refine step_pure rfl (pure_not rfl) ?_
    refine step_pure rfl (pure_pick_yes rfl rfl) ?_
    refine qa rfl rfl ?_
    refine step_nil ?_
    refine less_of ⟨rfl, rfl, rfl, rfl, ?_, trivial⟩ rfl
    refine congrArg some (congrArg Value.bool ?_)
    simp_all
    all_goals try first | omega | rfl | (rw [Bool.eq_iff_iff]; simp; done) | (rw [Bool.eq_iff_iff]; simp; omega)
   ·refine qp rfl rfl rfl ?_
    refine qp rfl rfl rfl ?_
    refine qp rfl rfl rfl ?_
    refine step_pure rfl (pure_pick_no rfl rfl) ?_
    refine qa rfl rfl ?_
    refine step_nil ?_
    refine less_of ⟨rfl, rfl, rfl, rfl, ?_, trivial⟩ rfl
    refine congrArg some (congrArg Value.bool ?_)
    simp_all
    all_goals try first | omega | rfl | (rw [Bool.eq_iff_iff]; simp; done) | (rw [Bool.eq_iff_iff]; simp; omega)
  ·refine qp rfl rfl rfl ?_
   refine step_pure rfl (pure_pick_no rfl rfl) ?_
   refine qm rfl rfl ?_
   refine qp rfl rfl rfl ?_
   refine qp rfl rfl rfl ?_
   refine qp rfl rfl rfl ?_
   refine step_pure rfl (pure_pick_no rfl rfl) ?_
   refine qa rfl rfl ?_
   refine step_nil ?_
   refine less_of ⟨rfl, rfl, rfl, rfl, ?_, trivial⟩ rfl
   refine congrArg some (congrArg Value.bool ?_)
   simp_all
   all_goals try first | omega | rfl | (rw [Bool.eq_iff_iff]; simp; done) | (rw [Bool.eq_iff_iff]; simp; omega)
 repeat refine s_seqs ?_
 refine s_cond rfl (fun h => ?_) (fun h => ?_)
 ·have h := of_decide_eq_true h
  rw [if_pos h]
  have k5 := (still_save ok0).ok
  have ok2 : ScOk { tmSave s with main := s.cells, alt := true } := ⟨k5.w, k5.h, k5.cells, k5.cells, k5.x, k5.y, k5.a, k5.rows, k5.s0, k5.s1, k5.s2⟩
  obtain ⟨k3, k4⟩ := ok_lens ok2
  have hmx : maxLen ≤ 9223372036854775807 := by decide
  repeat refine s_seqs ?_
  refine s_reg ?_
  refine step_pure rfl (pure_load_agg (i := 1) rfl rfl rfl rfl rfl (Nat.le_of_ble_eq_true rfl) rfl) ?_
  refine step_givesP on.sc rfl fun41 rfl (fun w' Z' hh kp hZ hC => save_S s _ w' hZ (hs.mono hC) ok0) ?_
  rintro u E5 g ⟨cs', rfl, hs'⟩
  replace on := on.next g
  try rw [doF_ok ok0] at hs'
  obtain ⟨hl5, ho5⟩ := scv_form hs'
  obtain ⟨v3, v4, rfl, hq1, hq2⟩ := hs'
  obtain ⟨a3, c3, rfl, _⟩ := slc_sl hq1
  obtain ⟨a4, c4, rfl, _⟩ := slc_sl hq2
  have hs2 : ScV (Cz Z E5) { tmSave s with main := s.cells, alt := true } (scC { tmSave s with main := s.cells, alt := true } (.slice a3 s.cells.length c3) (.slice a3 s.cells.length c3)) := ⟨_, _, rfl, hq1, hq1⟩
  clear hq1 hq2
  refine step_store_agg 1 rfl rfl rfl ho5 rfl hl5 rfl rfl (Nat.le_of_ble_eq_true rfl) (show _ = scC (tmSave s) (.slice a3 s.cells.length c3) (.slice a4 (tmSave s).main.length c4) from rfl) ?_
  refine Vc.step_end (fun a w ok => ?_)
  first | (refine WPs.run ?_ a w ok; clear ok w a) | skip
  repeat refine s_seqs ?_
  refine s_reg ?_
  refine step_pure rfl (pure_fieldAddr rfl rfl rfl rfl rfl (by decide)) ?_
  refine step_pure rfl (pure_load (i := 1) rfl rfl rfl rfl rfl rfl) ?_
  refine step_pure rfl (pure_fieldAddr rfl rfl rfl rfl rfl (by decide)) ?_
  refine step_store 1 rfl rfl rfl rfl rfl rfl rfl rfl (Nat.le_of_ble_eq_true rfl) (show _ = scC (tmSave s) (.slice a3 s.cells.length c3) (.slice a3 s.cells.length c3) from rfl) ?_
  refine step_pure rfl (pure_fieldAddr rfl rfl rfl rfl rfl (by decide)) ?_
  refine step_store 1 rfl rfl rfl rfl rfl rfl rfl rfl (Nat.le_of_ble_eq_true rfl) (show _ = scC { tmSave s with main := s.cells, alt := true } (.slice a3 s.cells.length c3) (.slice a3 s.cells.length c3) from rfl) ?_
  refine Vc.step_end (fun a w ok => ?_)
  first | (refine WPs.run ?_ a w ok; clear ok w a) | skip
  repeat refine s_seqs ?_
  refine s_reg ?_
  refine step_pure rfl (pure_load_agg (i := 1) rfl rfl rfl rfl rfl (Nat.le_of_ble_eq_true rfl) rfl) ?_
  refine step_pure rfl (pure_fieldAddr rfl rfl rfl rfl rfl (by decide)) ?_
  refine step_pure rfl (pure_load (i := 1) rfl rfl rfl rfl rfl rfl) ?_
  refine step_pure rfl (pure_len_slice rfl rfl rfl) ?_
  refine step_givesP on.sc rfl fun61 rfl (fun w' Z' hh kp hZ hC => erase_P { tmSave s with main := s.cells, alt := true } _ 0 s.cells.length w' hZ (hs2.mono (Cz.now kp)) k3 k4) ?_
  rintro u E6 g ⟨cs6, rfl, hs6⟩
  replace on := on.next g
  rw [doF_ok ok2] at hs6
  obtain ⟨hl6, ho6⟩ := scv_form hs6
  refine step_store_agg 1 rfl rfl rfl ho6 rfl hl6 rfl rfl (Nat.le_of_ble_eq_true rfl) (splice_all hl6) ?_
  refine Vc.step_end (fun a w ok => ?_)
  first | (refine WPs.run ?_ a w ok; clear ok w a) | skip
  repeat refine s_seqs ?_
  refine s_reg ?_
  refine step_pure rfl (pure_load_agg (i := 1) (vs := cs6) rfl rfl rfl rfl rfl (by show 0 + 16 ≤ cs6.length; omega) (load_all hl6)) ?_
  refine step_store_agg 0 rfl rfl rfl ho6 rfl hl6 rfl rfl (Nat.le_of_ble_eq_true rfl) (splice_all hl6) ?_
  refine Vc.step_end (fun a w ok => ?_)
  first | (refine WPs.run ?_ a w ok; clear ok w a) | skip
  exact s_ret fun a w ok => ends_givesP on (.inr rfl) ok (res_cell_agg (i := 0) Try.results28 rfl rfl rfl rfl rfl (by show 0 + 16 ≤ cs6.length; omega) (load_all hl6)) scR_mono ⟨cs6, rfl, hs6⟩
 rw [if_neg (of_decide_eq_false h)]
 clear h
 repeat refine s_seqs ?_
 refine s_meet [(1, .int .i64 n), (2, .bool on_), (3, .pointer (some ⟨b3, 0, none⟩)), (6, .pointer (some ⟨b6, 0, none⟩)), (40, .bool (decide (n = 1049 ∧ on_ = false ∧ s.alt = true)))] [⟨b6, scC zScr (.slice none 0 0) (.slice none 0 0), tSc⟩, ⟨b3, scC s (.slice a1 l1 c1) (.slice a2 l2 c2), tSc⟩] ?_ (fun a w ok => WPs.run ?_ a w ok)
 ·clear hs k1 k2 ok0
  repeat refine c_seq ?_
  refine c_region ?_
  refine qm rfl rfl ?_
  refine step_pure rfl (pure_eql rfl rfl) ?_
  refine qm rfl rfl ?_
  refine step_split (t := 43) rfl (fun h43 => ?_) (fun h43 => ?_)
  ·refine qm rfl rfl ?_
   refine step_pure rfl (pure_not rfl) ?_
   refine step_pure rfl (pure_pick_yes rfl rfl) ?_
   refine qm rfl rfl ?_
   refine step_split (t := 47) rfl (fun h47 => ?_) (fun h47 => ?_)
   ·refine step_pure rfl (pure_fieldAddr rfl rfl rfl rfl rfl (by decide)) ?_
    refine step_pure rfl (pure_load (i := 1) rfl rfl rfl rfl rfl rfl) ?_
    refine step_pure rfl (pure_pick_yes rfl rfl) ?_
    refine qa rfl rfl ?_
    refine step_nil ?_
    refine less_of ⟨rfl, rfl, rfl, rfl, ?_, trivial⟩ rfl
    refine congrArg some (congrArg Value.bool ?_)
    simp_all
    all_goals try first | omega | rfl | (rw [Bool.eq_iff_iff]; simp; done) | (rw [Bool.eq_iff_iff]; simp; omega)
   ·refine qp rfl rfl rfl ?_
    refine qp rfl rfl rfl ?_
    refine step_pure rfl (pure_pick_no rfl rfl) ?_
    refine qa rfl rfl ?_
    refine step_nil ?_
    refine less_of ⟨rfl, rfl, rfl, rfl, ?_, trivial⟩ rfl
    refine congrArg some (congrArg Value.bool ?_)
    simp_all
    all_goals try first | omega | rfl | (rw [Bool.eq_iff_iff]; simp; done) | (rw [Bool.eq_iff_iff]; simp; omega)
  ·refine qp rfl rfl rfl ?_
   refine qp rfl rfl rfl ?_
   refine step_pure rfl (pure_pick_no rfl rfl) ?_
   refine qm rfl rfl ?_
   refine qp rfl rfl rfl ?_
   refine qp rfl rfl rfl ?_
   refine step_pure rfl (pure_pick_no rfl rfl) ?_
   refine qa rfl rfl ?_
   refine step_nil ?_
   refine less_of ⟨rfl, rfl, rfl, rfl, ?_, trivial⟩ rfl
   refine congrArg some (congrArg Value.bool ?_)
   simp_all
   all_goals try first | omega | rfl | (rw [Bool.eq_iff_iff]; simp; done) | (rw [Bool.eq_iff_iff]; simp; omega)
 repeat refine s_seqs ?_
 refine s_cond rfl (fun h => ?_) (fun h => ?_)
 ·have h := of_decide_eq_true h
  rw [if_pos h]
  have hm := ok0.main
  rw [if_pos h.2.2] at hm
  have ok2 : ScOk { s with cells := s.main, main := [], alt := false } := ⟨ok0.w, ok0.h, hm, rfl, ok0.x, ok0.y, ok0.a, ok0.rows, ok0.s0, ok0.s1, ok0.s2⟩
  have hs2 := scv_swap hs
  repeat refine s_seqs ?_
  refine s_reg ?_
  refine step_pure rfl (pure_fieldAddr rfl rfl rfl rfl rfl (by decide)) ?_
  refine step_pure rfl (pure_load (i := 1) rfl rfl rfl rfl rfl rfl) ?_
  refine step_pure rfl (pure_fieldAddr rfl rfl rfl rfl rfl (by decide)) ?_
  refine step_store 1 rfl rfl rfl rfl rfl rfl rfl rfl (Nat.le_of_ble_eq_true rfl) (show _ = scC s (.slice a2 l2 c2) (.slice a2 l2 c2) from rfl) ?_
  refine step_pure rfl (pure_fieldAddr rfl rfl rfl rfl rfl (by decide)) ?_
  refine step_store 1 rfl rfl rfl rfl rfl rfl rfl rfl (Nat.le_of_ble_eq_true rfl) (show _ = scC s (.slice a2 l2 c2) (.slice none 0 0) from rfl) ?_
  refine step_pure rfl (pure_fieldAddr rfl rfl rfl rfl rfl (by decide)) ?_
  refine step_store 1 rfl rfl rfl rfl rfl rfl rfl rfl (Nat.le_of_ble_eq_true rfl) (show _ = scC { s with cells := s.main, main := [], alt := false } (.slice a2 l2 c2) (.slice none 0 0) from rfl) ?_
  refine Vc.step_end (fun a w ok => ?_)
  first | (refine WPs.run ?_ a w ok; clear ok w a) | skip
  repeat refine s_seqs ?_
  refine s_reg ?_
  refine step_pure rfl (pure_load_agg (i := 1) rfl rfl rfl rfl rfl (Nat.le_of_ble_eq_true rfl) rfl) ?_
  refine step_givesP on.sc rfl fun42 rfl (fun w' Z' hh kp hZ hC => restore_S { s with cells := s.main, main := [], alt := false } _ w' hZ (hs2.mono (Cz.now kp)) ok2) ?_
  rintro u E6 g ⟨cs6, rfl, hs6⟩
  replace on := on.next g
  obtain ⟨hl6, ho6⟩ := scv_form hs6
  refine step_store_agg 1 rfl rfl rfl ho6 rfl hl6 rfl rfl (Nat.le_of_ble_eq_true rfl) (splice_all hl6) ?_
  refine Vc.step_end (fun a w ok => ?_)
  first | (refine WPs.run ?_ a w ok; clear ok w a) | skip
  repeat refine s_seqs ?_
  refine s_reg ?_
  refine step_pure rfl (pure_load_agg (i := 1) (vs := cs6) rfl rfl rfl rfl rfl (by show 0 + 16 ≤ cs6.length; omega) (load_all hl6)) ?_
  refine step_store_agg 0 rfl rfl rfl ho6 rfl hl6 rfl rfl (Nat.le_of_ble_eq_true rfl) (splice_all hl6) ?_
  refine Vc.step_end (fun a w ok => ?_)
  first | (refine WPs.run ?_ a w ok; clear ok w a) | skip
  exact s_ret fun a w ok => ends_givesP on (.inr rfl) ok (res_cell_agg (i := 0) Try.results28 rfl rfl rfl rfl rfl (by show 0 + 16 ≤ cs6.length; omega) (load_all hl6)) scR_mono ⟨cs6, rfl, hs6⟩
 rw [if_neg (of_decide_eq_false h)]
 refine s_skip fun a w ok => WPs.run ?_ a w ok
 clear ok w a
 repeat refine s_seqs ?_
 refine s_reg ?_
 refine step_pure rfl (pure_load_agg (i := 1) rfl rfl rfl rfl rfl (Nat.le_of_ble_eq_true rfl) rfl) ?_
 refine step_store_agg 0 rfl rfl rfl (of_one rfl) rfl rfl rfl rfl (Nat.le_of_ble_eq_true rfl) (show _ = scC s (.slice a1 l1 c1) (.slice a2 l2 c2) from rfl) ?_
 refine Vc.step_end (fun a w ok => ?_)
 first | (refine WPs.run ?_ a w ok; clear ok w a) | skip
 exact s_ret fun a w ok => ends_givesP on (.inr rfl) ok (res_cell_agg (i := 0) Try.results28 rfl rfl rfl rfl rfl (Nat.le_of_ble_eq_true rfl) rfl) scR_mono ⟨_, rfl, hs⟩
end Go.Proofs.Ytadginombcjbeaa
