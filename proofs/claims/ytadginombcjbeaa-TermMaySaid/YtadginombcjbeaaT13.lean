/- What sequences do, the rest: walked. -/
import Derived.Test.YtadginombcjbeaaT12
namespace Go.Proofs.Ytadginombcjbeaa
open Go.RowKit Go.Vc
set_option linter.unusedVariables false
/-- The same places, and other numbers. -/
theorem scv_to {C : Addr → Value → Prop} {s t : Scr} {v1 v2 : Value} (h : ScV C s (scC s v1 v2)) (hc : t.cells = s.cells) (hm : t.main = s.main) : ScV C t (scC t v1 v2) := by
 obtain ⟨u1, u2, he, h1, h2⟩ := h
 unfold scC at he
 simp only [List.cons.injEq, and_true, true_and] at he
 obtain ⟨e1, e2⟩ := he
 subst e1 e2
 exact ⟨v1, v2, rfl, by rw [hc]; exact h1, by rw [hm]; exact h2⟩
set_option maxHeartbeats 1000000 in
theorem erase_S (s : Scr) (cs : List Value) (ac : Ac) (f t : Int) (w : World) {Z : Nat → Prop} (hZ : ∀ j, w.heap.size ≤ j → Z j) (hs : ScV (At w) s cs) (ok0 : ScOk s) (h8 : Ac8 ac) : GivesP tb 79 [.agg cs.toArray, .agg (acC ac).toArray, .int .i64 f, .int .i64 t] w Z (ScR (tmErase ac f t s)) := by
 replace hs := scv_cz hs
 obtain ⟨a1, l1, c1, a2, l2, c2, rfl⟩ := scv_agg hs
 obtain ⟨k1, k2⟩ := ok_lens ok0
 have hN := tmN_in ac
 have hW := ok0.w
 have hH := ok0.h
 have hX := ok0.x
 have hY := ok0.y
 have hT := ok0.rows
 have hp0 := mulIn (x := s.Y) (y := s.W) (by omega) (by omega)
 have hp1 : (s.Y + 1) * s.W = s.Y * s.W + s.W := by rw [Int.add_mul, Int.one_mul]
 refine givesP_of (fn := Try.f79) Try.func79 rfl Try.ntmps79 rfl hZ scR_mono (fun on => ?_)
 unfold tmErase
 repeat refine s_seqs ?_
 refine s_reg ?_
 refine step_box_agg rfl rfl (fun b4 => ?_)
 refine step_box_agg rfl rfl (fun b5 => ?_)
 refine step_alloc rfl zero32 (fun b8 => ?_)
 refine Vc.step_end (fun a w ok => ?_)
 first | (refine WPs.run ?_ a w ok; clear ok w a) | skip
 repeat refine s_seqs ?_
 refine s_reg ?_
 refine step_pure rfl (pure_fieldAddr rfl rfl rfl rfl rfl (by decide)) ?_
 refine step_pure rfl (pure_fieldAddr rfl rfl rfl rfl rfl (by decide)) ?_
 refine step_pure rfl (pure_load (i := 2) rfl rfl rfl rfl rfl rfl) ?_
 refine step_pure rfl (pure_fieldAddr rfl rfl rfl rfl rfl (by decide)) ?_
 refine step_pure rfl (pure_fieldAddr rfl rfl rfl rfl rfl (by decide)) ?_
 refine step_pure rfl (pure_load (i := 2) rfl rfl rfl rfl rfl rfl) ?_
 first | refine step_pure rfl (pure_mul64 rfl rfl (by omega) (by omega)) ?_ | refine step_pure rfl (pure_mul rfl rfl) ?_
 refine step_pure rfl (pure_fieldAddr rfl rfl rfl rfl rfl (by decide)) ?_
 refine step_pure rfl (pure_fieldAddr rfl rfl rfl rfl rfl (by decide)) ?_
 refine step_pure rfl (pure_load (i := 2) rfl rfl rfl rfl rfl rfl) ?_
 first | refine step_pure rfl (pure_add64 rfl rfl (by omega) (by omega)) ?_ | refine step_pure rfl (pure_add rfl rfl) ?_
 refine qa rfl rfl ?_
 refine Vc.step_end (fun a w ok => ?_)
 first | (refine WPs.run ?_ a w ok; clear ok w a) | skip
 repeat refine s_seqs ?_
 refine s_reg ?_
 refine step_pure rfl (pure_load_agg (i := 1) (vs := acC ac) rfl rfl rfl rfl rfl (ac_le h8) (load_all (ac_len h8))) ?_
 refine step_gives rfl fun78 rfl (fun w _ _ => param_any ac 0 0 w h8) ?_
 refine Vc.step_end (fun a w ok => ?_)
 first | (refine WPs.run ?_ a w ok; clear ok w a) | skip
 generalize tmParam ac 0 0 = q at *
 repeat refine s_seqs ?_
 refine s_block ?_
 repeat refine s_seqs ?_
 refine s_reg ?_
 refine step_pure rfl (pure_eql rfl rfl) ?_
 refine qa rfl rfl ?_
 refine Vc.step_end (fun a w ok => ?_)
 first | (refine WPs.run ?_ a w ok; clear ok w a) | skip
 repeat refine s_seqs ?_
 refine s_cond rfl (fun h => ?_) (fun h => ?_)
 ·rw [if_pos (beq_iff_eq.1 h)]
  repeat refine s_seqs ?_
  refine s_reg ?_
  refine qm rfl rfl ?_
  refine qa rfl rfl ?_
  refine Vc.step_end (fun a w ok => ?_)
  first | (refine WPs.run ?_ a w ok; clear ok w a) | skip
  repeat refine s_seqs ?_
  refine s_reg ?_
  refine step_pure rfl (pure_fieldAddr rfl rfl rfl rfl rfl (by decide)) ?_
  refine step_pure rfl (pure_load_agg (i := 2) rfl rfl rfl rfl rfl (Nat.le_of_ble_eq_true rfl) rfl) ?_
  refine qm rfl rfl ?_
  refine qm rfl rfl ?_
  refine step_givesP on.sc rfl fun61 rfl (fun w' Z' hh kp hZ hC => erase_P s _ (s.Y * s.W + s.X) (t) w' hZ (hs.mono (Cz.now kp)) k1 k2) ?_
  rintro u E5 g ⟨cs', rfl, hs'⟩
  replace on := on.next g
  try rw [doF_ok ok0] at hs'
  obtain ⟨hl5, ho5⟩ := scv_form hs'
  refine step_store_agg 0 rfl rfl rfl ho5 rfl hl5 rfl rfl (Nat.le_of_ble_eq_true rfl) (splice_all hl5) ?_
  refine Vc.step_end (fun a w ok => ?_)
  first | (refine WPs.run ?_ a w ok; clear ok w a) | skip
  exact s_ret fun a w ok => ends_givesP on (.inr rfl) ok (res_cell_agg (i := 0) Try.results79 rfl rfl rfl rfl rfl (by show 0 + 16 ≤ cs'.length; omega) (load_all hl5)) scR_mono ⟨cs', rfl, hs'⟩
 rw [if_neg (by intro e; rw [e] at h; cases h)]
 clear h
 repeat refine s_seqs ?_
 refine s_reg ?_
 refine step_pure rfl (pure_eql rfl rfl) ?_
 refine qa rfl rfl ?_
 refine Vc.step_end (fun a w ok => ?_)
 first | (refine WPs.run ?_ a w ok; clear ok w a) | skip
 repeat refine s_seqs ?_
 refine s_cond rfl (fun h => ?_) (fun h => ?_)
 ·rw [if_pos (beq_iff_eq.1 h)]
  repeat refine s_seqs ?_
  refine s_reg ?_
  refine qm rfl rfl ?_
  first | refine step_pure rfl (pure_add64 rfl rfl (by omega) (by omega)) ?_ | refine step_pure rfl (pure_add rfl rfl) ?_
  refine qa rfl rfl ?_
  refine Vc.step_end (fun a w ok => ?_)
  first | (refine WPs.run ?_ a w ok; clear ok w a) | skip
  repeat refine s_seqs ?_
  refine s_reg ?_
  refine step_pure rfl (pure_fieldAddr rfl rfl rfl rfl rfl (by decide)) ?_
  refine step_pure rfl (pure_load_agg (i := 2) rfl rfl rfl rfl rfl (Nat.le_of_ble_eq_true rfl) rfl) ?_
  refine qm rfl rfl ?_
  refine qm rfl rfl ?_
  refine step_givesP on.sc rfl fun61 rfl (fun w' Z' hh kp hZ hC => erase_P s _ (f) (s.Y * s.W + s.X + 1) w' hZ (hs.mono (Cz.now kp)) k1 k2) ?_
  rintro u E5 g ⟨cs', rfl, hs'⟩
  replace on := on.next g
  try rw [doF_ok ok0] at hs'
  obtain ⟨hl5, ho5⟩ := scv_form hs'
  refine step_store_agg 0 rfl rfl rfl ho5 rfl hl5 rfl rfl (Nat.le_of_ble_eq_true rfl) (splice_all hl5) ?_
  refine Vc.step_end (fun a w ok => ?_)
  first | (refine WPs.run ?_ a w ok; clear ok w a) | skip
  exact s_ret fun a w ok => ends_givesP on (.inr rfl) ok (res_cell_agg (i := 0) Try.results79 rfl rfl rfl rfl rfl (by show 0 + 16 ≤ cs'.length; omega) (load_all hl5)) scR_mono ⟨cs', rfl, hs'⟩
 rw [if_neg (by intro e; rw [e] at h; cases h)]
 clear h
 repeat refine s_seqs ?_
 refine s_reg ?_
 refine step_pure rfl (pure_eql rfl rfl) ?_
 refine qa rfl rfl ?_
 refine Vc.step_end (fun a w ok => ?_)
 first | (refine WPs.run ?_ a w ok; clear ok w a) | skip
 repeat refine s_seqs ?_
 refine s_cond rfl (fun h => ?_) (fun h => ?_)
 ·rw [if_pos (beq_iff_eq.1 h)]
  refine s_skip fun a w ok => WPs.run ?_ a w ok
  clear ok w a
  repeat refine s_seqs ?_
  refine s_reg ?_
  refine step_pure rfl (pure_fieldAddr rfl rfl rfl rfl rfl (by decide)) ?_
  refine step_pure rfl (pure_load_agg (i := 2) rfl rfl rfl rfl rfl (Nat.le_of_ble_eq_true rfl) rfl) ?_
  refine qm rfl rfl ?_
  refine qm rfl rfl ?_
  refine step_givesP on.sc rfl fun61 rfl (fun w' Z' hh kp hZ hC => erase_P s _ (f) (t) w' hZ (hs.mono (Cz.now kp)) k1 k2) ?_
  rintro u E5 g ⟨cs', rfl, hs'⟩
  replace on := on.next g
  try rw [doF_ok ok0] at hs'
  obtain ⟨hl5, ho5⟩ := scv_form hs'
  refine step_store_agg 0 rfl rfl rfl ho5 rfl hl5 rfl rfl (Nat.le_of_ble_eq_true rfl) (splice_all hl5) ?_
  refine Vc.step_end (fun a w ok => ?_)
  first | (refine WPs.run ?_ a w ok; clear ok w a) | skip
  exact s_ret fun a w ok => ends_givesP on (.inr rfl) ok (res_cell_agg (i := 0) Try.results79 rfl rfl rfl rfl rfl (by show 0 + 16 ≤ cs'.length; omega) (load_all hl5)) scR_mono ⟨cs', rfl, hs'⟩
 rw [if_neg (by intro e; rw [e] at h; cases h)]
 clear h
 repeat refine s_seqs ?_
 refine s_reg ?_
 refine qm rfl rfl ?_
 refine qa rfl rfl ?_
 refine Vc.step_end (fun a w ok => ?_)
 first | (refine WPs.run ?_ a w ok; clear ok w a) | skip
 repeat refine s_seqs ?_
 refine s_reg ?_
 refine step_pure rfl (pure_fieldAddr rfl rfl rfl rfl rfl (by decide)) ?_
 refine step_pure rfl (pure_load_agg (i := 2) rfl rfl rfl rfl rfl (Nat.le_of_ble_eq_true rfl) rfl) ?_
 refine qm rfl rfl ?_
 refine qm rfl rfl ?_
 refine step_givesP on.sc rfl fun61 rfl (fun w' Z' hh kp hZ hC => erase_P s _ (f) (f) w' hZ (hs.mono (Cz.now kp)) k1 k2) ?_
 rintro u E5 g ⟨cs', rfl, hs'⟩
 replace on := on.next g
 try rw [doF_ok ok0] at hs'
 obtain ⟨hl5, ho5⟩ := scv_form hs'
 refine step_store_agg 0 rfl rfl rfl ho5 rfl hl5 rfl rfl (Nat.le_of_ble_eq_true rfl) (splice_all hl5) ?_
 refine Vc.step_end (fun a w ok => ?_)
 first | (refine WPs.run ?_ a w ok; clear ok w a) | skip
 exact s_ret fun a w ok => ends_givesP on (.inr rfl) ok (res_cell_agg (i := 0) Try.results79 rfl rfl rfl rfl rfl (by show 0 + 16 ≤ cs'.length; omega) (load_all hl5)) scR_mono ⟨cs', rfl, hs'⟩
set_option maxHeartbeats 1000000 in
theorem all_S (s : Scr) (cs : List Value) (ac : Ac) (w : World) {Z : Nat → Prop} (hZ : ∀ j, w.heap.size ≤ j → Z j) (hs : ScV (At w) s cs) (ok0 : ScOk s) (h8 : Ac8 ac) : GivesP tb 50 [.agg cs.toArray, .agg (acC ac).toArray] w Z (ScR (tmAll ac s)) := by
 replace hs := scv_cz hs
 obtain ⟨a1, l1, c1, a2, l2, c2, rfl⟩ := scv_agg hs
 obtain ⟨k1, k2⟩ := ok_lens ok0
 have hN := tmN_in ac
 have hW := ok0.w
 have hH := ok0.h
 have hX := ok0.x
 have hY := ok0.y
 have hT := ok0.rows
 have hp0 := mulIn (x := s.Y) (y := s.W) (by omega) (by omega)
 have hp1 : (s.Y + 1) * s.W = s.Y * s.W + s.W := by rw [Int.add_mul, Int.one_mul]
 have hp2 := mulIn (x := s.W) (y := s.H) (by omega) (by omega)
 refine givesP_of (fn := Try.f50) Try.func50 rfl Try.ntmps50 rfl hZ scR_mono (fun on => ?_)
 repeat refine s_seqs ?_
 refine s_reg ?_
 refine step_box_agg rfl rfl (fun b2 => ?_)
 refine step_box_agg rfl rfl (fun b3 => ?_)
 refine step_alloc rfl zero32 (fun b4 => ?_)
 refine Vc.step_end (fun a w ok => ?_)
 first | (refine WPs.run ?_ a w ok; clear ok w a) | skip
 repeat refine s_seqs ?_
 refine s_reg ?_
 refine step_pure rfl (pure_load_agg (i := 2) rfl rfl rfl rfl rfl (Nat.le_of_ble_eq_true rfl) rfl) ?_
 refine step_pure rfl (pure_load_agg (i := 1) (vs := acC ac) rfl rfl rfl rfl rfl (ac_le h8) (load_all (ac_len h8))) ?_
 refine step_pure rfl (pure_fieldAddr rfl rfl rfl rfl rfl (by decide)) ?_
 refine step_pure rfl (pure_fieldAddr rfl rfl rfl rfl rfl (by decide)) ?_
 refine step_pure rfl (pure_load (i := 2) rfl rfl rfl rfl rfl rfl) ?_
 refine step_pure rfl (pure_fieldAddr rfl rfl rfl rfl rfl (by decide)) ?_
 refine step_pure rfl (pure_fieldAddr rfl rfl rfl rfl rfl (by decide)) ?_
 refine step_pure rfl (pure_load (i := 2) rfl rfl rfl rfl rfl rfl) ?_
 first | refine step_pure rfl (pure_mul64 rfl rfl (by omega) (by omega)) ?_ | refine step_pure rfl (pure_mul rfl rfl) ?_
 refine step_givesP on.sc rfl fun79 rfl (fun w' Z' hh kp hZ hC => erase_S s _ ac (0) (s.W * s.H) w' hZ (hs.mono (Cz.now kp)) ok0 h8) ?_
 rintro u E5 g ⟨cs', rfl, hs'⟩
 replace on := on.next g
 try rw [doF_ok ok0] at hs'
 obtain ⟨hl5, ho5⟩ := scv_form hs'
 refine step_store_agg 0 rfl rfl rfl ho5 rfl hl5 rfl rfl (Nat.le_of_ble_eq_true rfl) (splice_all hl5) ?_
 refine Vc.step_end (fun a w ok => ?_)
 first | (refine WPs.run ?_ a w ok; clear ok w a) | skip
 exact s_ret fun a w ok => ends_givesP on (.inr rfl) ok (res_cell_agg (i := 0) Try.results50 rfl rfl rfl rfl rfl (by show 0 + 16 ≤ cs'.length; omega) (load_all hl5)) scR_mono ⟨cs', rfl, hs'⟩
set_option maxHeartbeats 1000000 in
theorem line_S (s : Scr) (cs : List Value) (ac : Ac) (w : World) {Z : Nat → Prop} (hZ : ∀ j, w.heap.size ≤ j → Z j) (hs : ScV (At w) s cs) (ok0 : ScOk s) (h8 : Ac8 ac) : GivesP tb 51 [.agg cs.toArray, .agg (acC ac).toArray] w Z (ScR (tmLine ac s)) := by
 replace hs := scv_cz hs
 obtain ⟨a1, l1, c1, a2, l2, c2, rfl⟩ := scv_agg hs
 obtain ⟨k1, k2⟩ := ok_lens ok0
 have hN := tmN_in ac
 have hW := ok0.w
 have hH := ok0.h
 have hX := ok0.x
 have hY := ok0.y
 have hT := ok0.rows
 have hp0 := mulIn (x := s.Y) (y := s.W) (by omega) (by omega)
 have hp1 : (s.Y + 1) * s.W = s.Y * s.W + s.W := by rw [Int.add_mul, Int.one_mul]
 have hp2 := mulIn (x := s.W) (y := s.H) (by omega) (by omega)
 refine givesP_of (fn := Try.f51) Try.func51 rfl Try.ntmps51 rfl hZ scR_mono (fun on => ?_)
 repeat refine s_seqs ?_
 refine s_reg ?_
 refine step_box_agg rfl rfl (fun b2 => ?_)
 refine step_box_agg rfl rfl (fun b3 => ?_)
 refine step_alloc rfl zero32 (fun b4 => ?_)
 refine Vc.step_end (fun a w ok => ?_)
 first | (refine WPs.run ?_ a w ok; clear ok w a) | skip
 repeat refine s_seqs ?_
 refine s_reg ?_
 refine step_pure rfl (pure_load_agg (i := 2) rfl rfl rfl rfl rfl (Nat.le_of_ble_eq_true rfl) rfl) ?_
 refine step_pure rfl (pure_load_agg (i := 1) (vs := acC ac) rfl rfl rfl rfl rfl (ac_le h8) (load_all (ac_len h8))) ?_
 refine step_pure rfl (pure_fieldAddr rfl rfl rfl rfl rfl (by decide)) ?_
 refine step_pure rfl (pure_fieldAddr rfl rfl rfl rfl rfl (by decide)) ?_
 refine step_pure rfl (pure_load (i := 2) rfl rfl rfl rfl rfl rfl) ?_
 refine step_pure rfl (pure_fieldAddr rfl rfl rfl rfl rfl (by decide)) ?_
 refine step_pure rfl (pure_fieldAddr rfl rfl rfl rfl rfl (by decide)) ?_
 refine step_pure rfl (pure_load (i := 2) rfl rfl rfl rfl rfl rfl) ?_
 first | refine step_pure rfl (pure_mul64 rfl rfl (by omega) (by omega)) ?_ | refine step_pure rfl (pure_mul rfl rfl) ?_
 refine step_pure rfl (pure_fieldAddr rfl rfl rfl rfl rfl (by decide)) ?_
 refine step_pure rfl (pure_fieldAddr rfl rfl rfl rfl rfl (by decide)) ?_
 refine step_pure rfl (pure_load (i := 2) rfl rfl rfl rfl rfl rfl) ?_
 first | refine step_pure rfl (pure_add64 rfl rfl (by omega) (by omega)) ?_ | refine step_pure rfl (pure_add rfl rfl) ?_
 refine step_pure rfl (pure_fieldAddr rfl rfl rfl rfl rfl (by decide)) ?_
 refine step_pure rfl (pure_fieldAddr rfl rfl rfl rfl rfl (by decide)) ?_
 refine step_pure rfl (pure_load (i := 2) rfl rfl rfl rfl rfl rfl) ?_
 first | refine step_pure rfl (pure_mul64 rfl rfl (by omega) (by omega)) ?_ | refine step_pure rfl (pure_mul rfl rfl) ?_
 refine step_givesP on.sc rfl fun79 rfl (fun w' Z' hh kp hZ hC => erase_S s _ ac (s.Y * s.W) ((s.Y + 1) * s.W) w' hZ (hs.mono (Cz.now kp)) ok0 h8) ?_
 rintro u E5 g ⟨cs', rfl, hs'⟩
 replace on := on.next g
 try rw [doF_ok ok0] at hs'
 obtain ⟨hl5, ho5⟩ := scv_form hs'
 refine step_store_agg 0 rfl rfl rfl ho5 rfl hl5 rfl rfl (Nat.le_of_ble_eq_true rfl) (splice_all hl5) ?_
 refine Vc.step_end (fun a w ok => ?_)
 first | (refine WPs.run ?_ a w ok; clear ok w a) | skip
 exact s_ret fun a w ok => ends_givesP on (.inr rfl) ok (res_cell_agg (i := 0) Try.results51 rfl rfl rfl rfl rfl (by show 0 + 16 ≤ cs'.length; omega) (load_all hl5)) scR_mono ⟨cs', rfl, hs'⟩
set_option maxHeartbeats 1000000 in
theorem some_S (s : Scr) (cs : List Value) (ac : Ac) (w : World) {Z : Nat → Prop} (hZ : ∀ j, w.heap.size ≤ j → Z j) (hs : ScV (At w) s cs) (ok0 : ScOk s) (h8 : Ac8 ac) : GivesP tb 52 [.agg cs.toArray, .agg (acC ac).toArray] w Z (ScR (tmSome ac s)) := by
 replace hs := scv_cz hs
 obtain ⟨a1, l1, c1, a2, l2, c2, rfl⟩ := scv_agg hs
 obtain ⟨k1, k2⟩ := ok_lens ok0
 have hN := tmN_in ac
 have hW := ok0.w
 have hH := ok0.h
 have hX := ok0.x
 have hY := ok0.y
 have hT := ok0.rows
 have hp0 := mulIn (x := s.Y) (y := s.W) (by omega) (by omega)
 have hp1 : (s.Y + 1) * s.W = s.Y * s.W + s.W := by rw [Int.add_mul, Int.one_mul]
 have hp2 := mulIn (x := s.W) (y := s.H) (by omega) (by omega)
 refine givesP_of (fn := Try.f52) Try.func52 rfl Try.ntmps52 rfl hZ scR_mono (fun on => ?_)
 repeat refine s_seqs ?_
 refine s_reg ?_
 refine step_box_agg rfl rfl (fun b2 => ?_)
 refine step_box_agg rfl rfl (fun b3 => ?_)
 refine step_alloc rfl zero32 (fun b4 => ?_)
 refine Vc.step_end (fun a w ok => ?_)
 first | (refine WPs.run ?_ a w ok; clear ok w a) | skip
 repeat refine s_seqs ?_
 refine s_reg ?_
 refine step_pure rfl (pure_fieldAddr rfl rfl rfl rfl rfl (by decide)) ?_
 refine step_pure rfl (pure_fieldAddr rfl rfl rfl rfl rfl (by decide)) ?_
 refine step_pure rfl (pure_load (i := 2) rfl rfl rfl rfl rfl rfl) ?_
 refine step_pure rfl (pure_fieldAddr rfl rfl rfl rfl rfl (by decide)) ?_
 refine step_pure rfl (pure_fieldAddr rfl rfl rfl rfl rfl (by decide)) ?_
 refine step_pure rfl (pure_load (i := 2) rfl rfl rfl rfl rfl rfl) ?_
 first | refine step_pure rfl (pure_mul64 rfl rfl (by omega) (by omega)) ?_ | refine step_pure rfl (pure_mul rfl rfl) ?_
 refine step_pure rfl (pure_fieldAddr rfl rfl rfl rfl rfl (by decide)) ?_
 refine step_pure rfl (pure_fieldAddr rfl rfl rfl rfl rfl (by decide)) ?_
 refine step_pure rfl (pure_load (i := 2) rfl rfl rfl rfl rfl rfl) ?_
 first | refine step_pure rfl (pure_add64 rfl rfl (by omega) (by omega)) ?_ | refine step_pure rfl (pure_add rfl rfl) ?_
 refine qa rfl rfl ?_
 refine Vc.step_end (fun a w ok => ?_)
 first | (refine WPs.run ?_ a w ok; clear ok w a) | skip
 repeat refine s_seqs ?_
 refine s_dreg [1, 11, 17, 25, 35, 43, 49, 57, 65, 75, 81, 89, 97, 107, 113, 121, 132, 140] ([⟨b3, acC ac, tA⟩, ⟨b2, scC s (.slice a1 l1 c1) (.slice a2 l2 c2), tS⟩]) follows (by kernel_rfl) ?_
 refine d_pure0 rfl rfl rfl (pure_fieldAddr rfl rfl rfl rfl rfl (by decide)) ?_
 refine d_pure1 rfl rfl rfl (pure_load_agg (i := 1) rfl rfl rfl rfl rfl (Nat.le_of_ble_eq_true rfl) rfl) (by first | exact SubMem.refl _ | exact (SubMem.refl _).cons | exact (SubMem.refl _).cons.cons | exact (SubMem.refl _).cons.cons.cons | exact (SubMem.refl _).cons.cons.cons.cons | exact (fun w hh => Has.sublist (by repeat (first | exact List.Sublist.refl _ | exact List.nil_sublist _ | apply List.Sublist.cons_cons | apply List.Sublist.cons)) hh)) ?_
 refine qd rfl rfl rfl rfl ?_
 refine qd rfl rfl rfl rfl ?_
 refine d_pure1 rfl rfl rfl (pure_load_agg (i := 0) (vs := acC ac) rfl rfl rfl rfl rfl (ac_le h8) (load_all (ac_len h8))) (by first | exact SubMem.refl _ | exact (SubMem.refl _).cons | exact (SubMem.refl _).cons.cons | exact (SubMem.refl _).cons.cons.cons | exact (SubMem.refl _).cons.cons.cons.cons | exact (fun w hh => Has.sublist (by repeat (first | exact List.Sublist.refl _ | exact List.nil_sublist _ | apply List.Sublist.cons_cons | apply List.Sublist.cons)) hh)) ?_
 refine d_gives rfl rfl rfl fun77 rfl (fun w _ _ => n_any ac w h8) (by first | exact SubMem.refl _ | exact (SubMem.refl _).cons | exact (SubMem.refl _).cons.cons | exact (SubMem.refl _).cons.cons.cons | exact (SubMem.refl _).cons.cons.cons.cons | exact (fun w hh => Has.sublist (by repeat (first | exact List.Sublist.refl _ | exact List.nil_sublist _ | apply List.Sublist.cons_cons | apply List.Sublist.cons)) hh)) ?_
 first | refine d_pure0 rfl rfl rfl (pure_add64 rfl rfl (by omega) (by omega)) ?_ | refine d_pure0 rfl rfl rfl (pure_add rfl rfl) ?_
 refine d_pure0 rfl rfl rfl (pure_fieldAddr rfl rfl rfl rfl rfl (by decide)) ?_
 refine d_pure0 rfl rfl rfl (pure_fieldAddr rfl rfl rfl rfl rfl (by decide)) ?_
 refine d_pure1 rfl rfl rfl (pure_load (i := 1) rfl rfl rfl rfl rfl rfl) (by first | exact SubMem.refl _ | exact (SubMem.refl _).cons | exact (SubMem.refl _).cons.cons | exact (SubMem.refl _).cons.cons.cons | exact (SubMem.refl _).cons.cons.cons.cons | exact (fun w hh => Has.sublist (by repeat (first | exact List.Sublist.refl _ | exact List.nil_sublist _ | apply List.Sublist.cons_cons | apply List.Sublist.cons)) hh)) ?_
 first | refine d_pure0 rfl rfl rfl (pure_add64 rfl rfl (by omega) (by omega)) ?_ | refine d_pure0 rfl rfl rfl (pure_add rfl rfl) ?_
 refine d_pure0 rfl rfl rfl (pure_fieldAddr rfl rfl rfl rfl rfl (by decide)) ?_
 refine d_pure0 rfl rfl rfl (pure_fieldAddr rfl rfl rfl rfl rfl (by decide)) ?_
 refine d_pure1 rfl rfl rfl (pure_load (i := 1) rfl rfl rfl rfl rfl rfl) (by first | exact SubMem.refl _ | exact (SubMem.refl _).cons | exact (SubMem.refl _).cons.cons | exact (SubMem.refl _).cons.cons.cons | exact (SubMem.refl _).cons.cons.cons.cons | exact (fun w hh => Has.sublist (by repeat (first | exact List.Sublist.refl _ | exact List.nil_sublist _ | apply List.Sublist.cons_cons | apply List.Sublist.cons)) hh)) ?_
 first | refine d_pure0 rfl rfl rfl (pure_mul64 rfl rfl (by omega) (by omega)) ?_ | refine d_pure0 rfl rfl rfl (pure_mul rfl rfl) ?_
 refine d_pure0 rfl rfl rfl (pure_min rfl rfl) ?_
 refine d_givesP on.sc rfl rfl rfl fun61 rfl (fun w' Z' hh kp hZ hC => erase_P s _ (s.Y * s.W + s.X) (min (s.Y * s.W + s.X + tmN ac) ((s.Y + 1) * s.W)) w' hZ (hs.mono (Cz.now kp)) k1 k2) rfl ?_
 rintro u E5 g ⟨cs', rfl, hs'⟩
 replace on := on.next g
 try rw [doF_ok ok0] at hs'
 obtain ⟨hl5, ho5⟩ := scv_form hs'
 refine d_store_agg 0 rfl rfl rfl rfl rfl ho5 rfl hl5 rfl rfl (Nat.le_of_ble_eq_true rfl) (splice_all hl5) rfl rfl ?_
 refine d_end (fun a w ok => ?_)
 first | (refine WPs.run ?_ a w ok; clear ok w a) | skip
 exact s_ret fun a w ok => ends_givesP on (.inr rfl) ok (res_cell_agg (i := 0) Try.results52 rfl rfl rfl rfl rfl (by show 0 + 16 ≤ cs'.length; omega) (load_all hl5)) scR_mono ⟨cs', rfl, hs'⟩
set_option maxHeartbeats 1000000 in
theorem region_S (s : Scr) (cs : List Value) (ac : Ac) (w : World) {Z : Nat → Prop} (hZ : ∀ j, w.heap.size ≤ j → Z j) (hs : ScV (AtZ w Z) s cs) (ok0 : ScOk s) (h8 : Ac8 ac) : GivesP tb 59 [.agg cs.toArray, .agg (acC ac).toArray] w Z (ScR (tmRegion ac s)) := by
 replace hs := hs.mono cz_start
 obtain ⟨a1, l1, c1, a2, l2, c2, rfl⟩ := scv_agg hs
 obtain ⟨k1, k2⟩ := ok_lens ok0
 have hN := tmN_in ac
 have hW := ok0.w
 have hH := ok0.h
 have hX := ok0.x
 have hY := ok0.y
 have hT := ok0.rows
 have hP := tmParam_in ac (i := 1) (z := s.H) (by omega)
 refine givesP_of (fn := Try.f59) Try.func59 rfl Try.ntmps59 rfl hZ scR_mono (fun on => ?_)
 unfold tmRegion
 repeat refine s_seqs ?_
 refine s_reg ?_
 refine step_box_agg rfl rfl (fun b2 => ?_)
 refine step_box_agg rfl rfl (fun b3 => ?_)
 refine step_alloc rfl zero32 (fun b4 => ?_)
 refine Vc.step_end (fun a w ok => ?_)
 first | (refine WPs.run ?_ a w ok; clear ok w a) | skip
 repeat refine s_seqs ?_
 refine s_dreg [3, 11, 19, 25, 33, 43, 51, 57, 65] ([⟨b3, acC ac, tA⟩, ⟨b2, scC s (.slice a1 l1 c1) (.slice a2 l2 c2), tS⟩]) follows (by kernel_rfl) ?_
 refine d_pure1 rfl rfl rfl (pure_load_agg (i := 0) (vs := acC ac) rfl rfl rfl rfl rfl (ac_le h8) (load_all (ac_len h8))) (by first | exact SubMem.refl _ | exact (SubMem.refl _).cons | exact (SubMem.refl _).cons.cons | exact (SubMem.refl _).cons.cons.cons | exact (SubMem.refl _).cons.cons.cons.cons | exact (fun w hh => Has.sublist (by repeat (first | exact List.Sublist.refl _ | exact List.nil_sublist _ | apply List.Sublist.cons_cons | apply List.Sublist.cons)) hh)) ?_
 refine d_gives rfl rfl rfl fun77 rfl (fun w _ _ => n_any ac w h8) (by first | exact SubMem.refl _ | exact (SubMem.refl _).cons | exact (SubMem.refl _).cons.cons | exact (SubMem.refl _).cons.cons.cons | exact (SubMem.refl _).cons.cons.cons.cons | exact (fun w hh => Has.sublist (by repeat (first | exact List.Sublist.refl _ | exact List.nil_sublist _ | apply List.Sublist.cons_cons | apply List.Sublist.cons)) hh)) ?_
 refine d_pure1 rfl rfl rfl (pure_load_agg (i := 0) (vs := acC ac) rfl rfl rfl rfl rfl (ac_le h8) (load_all (ac_len h8))) (by first | exact SubMem.refl _ | exact (SubMem.refl _).cons | exact (SubMem.refl _).cons.cons | exact (SubMem.refl _).cons.cons.cons | exact (SubMem.refl _).cons.cons.cons.cons | exact (fun w hh => Has.sublist (by repeat (first | exact List.Sublist.refl _ | exact List.nil_sublist _ | apply List.Sublist.cons_cons | apply List.Sublist.cons)) hh)) ?_
 refine d_pure0 rfl rfl rfl (pure_fieldAddr rfl rfl rfl rfl rfl (by decide)) ?_
 refine d_pure0 rfl rfl rfl (pure_fieldAddr rfl rfl rfl rfl rfl (by decide)) ?_
 refine d_pure1 rfl rfl rfl (pure_load (i := 1) rfl rfl rfl rfl rfl rfl) (by first | exact SubMem.refl _ | exact (SubMem.refl _).cons | exact (SubMem.refl _).cons.cons | exact (SubMem.refl _).cons.cons.cons | exact (SubMem.refl _).cons.cons.cons.cons | exact (fun w hh => Has.sublist (by repeat (first | exact List.Sublist.refl _ | exact List.nil_sublist _ | apply List.Sublist.cons_cons | apply List.Sublist.cons)) hh)) ?_
 refine d_gives rfl rfl rfl fun78 rfl (fun w _ _ => param_any ac 1 s.H w h8) (by first | exact SubMem.refl _ | exact (SubMem.refl _).cons | exact (SubMem.refl _).cons.cons | exact (SubMem.refl _).cons.cons.cons | exact (SubMem.refl _).cons.cons.cons.cons | exact (fun w hh => Has.sublist (by repeat (first | exact List.Sublist.refl _ | exact List.nil_sublist _ | apply List.Sublist.cons_cons | apply List.Sublist.cons)) hh)) ?_
 refine d_pure0 rfl rfl rfl (pure_assign rfl) ?_
 refine d_pure0 rfl rfl rfl (pure_assign rfl) ?_
 refine d_end (fun a w ok => ?_)
 first | (refine WPs.run ?_ a w ok; clear ok w a) | skip
 generalize tmN ac = n at *
 generalize tmParam ac 1 s.H = q at *
 repeat refine s_seqs ?_
 refine s_meet [(2, .pointer (some ⟨b2, 0, none⟩)), (4, .pointer (some ⟨b4, 0, none⟩)), (5, .int .i64 n), (6, .int .i64 q), (24, .bool (decide (n ≥ q ∨ q > s.H)))] [⟨b4, scC zScr (.slice none 0 0) (.slice none 0 0), tSc⟩, ⟨b3, acC ac, tA⟩, ⟨b2, scC s (.slice a1 l1 c1) (.slice a2 l2 c2), tS⟩] ?_ (fun a w ok => WPs.run ?_ a w ok)
 ·clear hs k1 k2 hT hX hY
  repeat refine c_seq ?_
  refine c_region ?_
  refine qm rfl rfl ?_
  refine qm rfl rfl ?_
  refine step_pure rfl (pure_geq rfl rfl) ?_
  refine qm rfl rfl ?_
  refine step_split (t := 18) rfl (fun h18 => ?_) (fun h18 => ?_)
  ·refine qp rfl rfl rfl ?_
   refine qp rfl rfl rfl ?_
   refine qp rfl rfl rfl ?_
   refine qp rfl rfl rfl ?_
   refine qp rfl rfl rfl ?_
   refine step_pure rfl (pure_pick_yes rfl rfl) ?_
   refine step_nil ?_
   refine less_of ⟨rfl, rfl, rfl, rfl, ?_, trivial⟩ rfl
   refine congrArg some (congrArg Value.bool ?_)
   simp_all
   all_goals try first | omega | rfl | (rw [Bool.eq_iff_iff]; simp; done) | (rw [Bool.eq_iff_iff]; simp; omega)
  ·refine qm rfl rfl ?_
   refine step_pure rfl (pure_fieldAddr rfl rfl rfl rfl rfl (by decide)) ?_
   refine step_pure rfl (pure_fieldAddr rfl rfl rfl rfl rfl (by decide)) ?_
   refine step_pure rfl (pure_load (i := 2) rfl rfl rfl rfl rfl rfl) ?_
   refine step_pure rfl (pure_gtr rfl rfl) ?_
   refine step_pure rfl (pure_pick_no rfl rfl) ?_
   refine step_nil ?_
   refine less_of ⟨rfl, rfl, rfl, rfl, ?_, trivial⟩ rfl
   refine congrArg some (congrArg Value.bool ?_)
   simp_all
   all_goals try first | omega | rfl | (rw [Bool.eq_iff_iff]; simp; done) | (rw [Bool.eq_iff_iff]; simp; omega)
 repeat refine s_seqs ?_
 refine s_cond rfl (fun h => ?_) (fun h => ?_)
 ·rw [if_pos (of_decide_eq_true h)]
  repeat refine s_seqs ?_
  refine s_reg ?_
  refine step_pure rfl (pure_fieldAddr rfl rfl rfl rfl rfl (by decide)) ?_
  refine step_pure rfl (pure_load_agg (i := 2) rfl rfl rfl rfl rfl (Nat.le_of_ble_eq_true rfl) rfl) ?_
  refine step_store_agg 0 rfl rfl rfl (of_one rfl) rfl rfl rfl rfl (Nat.le_of_ble_eq_true rfl) (show _ = scC s (.slice a1 l1 c1) (.slice a2 l2 c2) from rfl) ?_
  refine Vc.step_end (fun a w ok => ?_)
  first | (refine WPs.run ?_ a w ok; clear ok w a) | skip
  exact s_ret fun a w ok => ends_givesP on (.inr rfl) ok (res_cell_agg (i := 0) Try.results59 rfl rfl rfl rfl rfl (Nat.le_of_ble_eq_true rfl) rfl) scR_mono ⟨_, rfl, hs⟩
 have h := of_decide_eq_false h
 rw [if_neg h]
 refine s_skip fun a w ok => WPs.run ?_ a w ok
 clear ok w a
 repeat refine s_seqs ?_
 refine s_reg ?_
 refine step_pure rfl (pure_load_agg (i := 2) rfl rfl rfl rfl rfl (Nat.le_of_ble_eq_true rfl) rfl) ?_
 refine step_givesP on.sc rfl fun76 rfl (fun w' Z' hh kp hZ hC => at_P s _ (0) (0) w' hZ (hs.mono (Cz.now kp)) ok0) ?_
 rintro u E5 g ⟨cs', rfl, hs'⟩
 replace on := on.next g
 try rw [doF_ok ok0] at hs'
 obtain ⟨hl5, ho5⟩ := scv_form hs'
 obtain ⟨a3, l3, c3, a4, l4, c4, rfl⟩ := scv_agg hs'
 refine step_alloc rfl zero32 (fun b7 => ?_)
 refine step_store_agg 0 rfl rfl rfl ho5 rfl hl5 rfl rfl (Nat.le_of_ble_eq_true rfl) (show _ = scC (moveF 0 0 s) (.slice a3 l3 c3) (.slice a4 l4 c4) from rfl) ?_
 refine Vc.step_end (fun a w ok => ?_)
 first | (refine WPs.run ?_ a w ok; clear ok w a) | skip
 repeat refine s_seqs ?_
 refine s_reg ?_
 refine qm rfl rfl ?_
 first | refine step_pure rfl (pure_sub64 rfl rfl (by omega) (by omega)) ?_ | refine step_pure rfl (pure_sub rfl rfl) ?_
 refine qm rfl rfl ?_
 first | refine step_pure rfl (pure_sub64 rfl rfl (by omega) (by omega)) ?_ | refine step_pure rfl (pure_sub rfl rfl) ?_
 refine step_pure rfl (pure_fieldAddr rfl rfl rfl rfl rfl (by decide)) ?_
 refine step_store 0 rfl rfl rfl rfl rfl rfl rfl rfl (Nat.le_of_ble_eq_true rfl) (show _ = scC { moveF 0 0 s with top := n - 1 } (.slice a3 l3 c3) (.slice a4 l4 c4) from rfl) ?_
 refine step_pure rfl (pure_fieldAddr rfl rfl rfl rfl rfl (by decide)) ?_
 refine step_store 0 rfl rfl rfl rfl rfl rfl rfl rfl (Nat.le_of_ble_eq_true rfl) (show _ = scC { moveF 0 0 s with top := n - 1, bot := q - 1 } (.slice a3 l3 c3) (.slice a4 l4 c4) from rfl) ?_
 refine Vc.step_end (fun a w ok => ?_)
 first | (refine WPs.run ?_ a w ok; clear ok w a) | skip
 repeat refine s_seqs ?_
 refine s_reg ?_
 refine step_pure rfl (pure_load_agg (i := 0) rfl rfl rfl rfl rfl (Nat.le_of_ble_eq_true rfl) rfl) ?_
 refine step_store_agg 1 rfl rfl rfl (of_one rfl) rfl rfl rfl rfl (Nat.le_of_ble_eq_true rfl) (show _ = scC { moveF 0 0 s with top := n - 1, bot := q - 1 } (.slice a3 l3 c3) (.slice a4 l4 c4) from rfl) ?_
 refine Vc.step_end (fun a w ok => ?_)
 first | (refine WPs.run ?_ a w ok; clear ok w a) | skip
 exact s_ret fun a w ok => ends_givesP on (.inr rfl) ok (res_cell_agg (i := 1) Try.results59 rfl rfl rfl rfl rfl (Nat.le_of_ble_eq_true rfl) rfl) scR_mono ⟨_, rfl, scv_to hs' rfl rfl⟩
set_option maxHeartbeats 1000000 in
theorem looks_S (s : Scr) (cs : List Value) (ac : Ac) (w : World) {Z : Nat → Prop} (hZ : ∀ j, w.heap.size ≤ j → Z j) (hs : ScV (AtZ w Z) s cs) (ok0 : ScOk s) (h8 : Ac8 ac) : GivesP tb 60 [.agg cs.toArray, .agg (acC ac).toArray] w Z (ScR (tmLooksF ac s)) := by
 replace hs := hs.mono cz_start
 obtain ⟨a1, l1, c1, a2, l2, c2, rfl⟩ := scv_agg hs
 obtain ⟨k1, k2⟩ := ok_lens ok0
 refine givesP_of (fn := Try.f60) Try.func60 rfl Try.ntmps60 rfl hZ scR_mono (fun on => ?_)
 repeat refine s_seqs ?_
 refine s_reg ?_
 refine step_box_agg rfl rfl (fun b2 => ?_)
 refine step_box_agg rfl rfl (fun b3 => ?_)
 refine step_alloc rfl zero32 (fun b4 => ?_)
 refine Vc.step_end (fun a w ok => ?_)
 first | (refine WPs.run ?_ a w ok; clear ok w a) | skip
 repeat refine s_seqs ?_
 refine s_reg ?_
 refine step_pure rfl (pure_fieldAddr rfl rfl rfl rfl rfl (by decide)) ?_
 refine step_pure rfl (pure_fieldAddr rfl rfl rfl rfl rfl (by decide)) ?_
 refine step_pure rfl (pure_load (i := 2) rfl rfl rfl rfl rfl rfl) ?_
 refine step_pure rfl (pure_load_agg (i := 1) (vs := acC ac) rfl rfl rfl rfl rfl (ac_le h8) (load_all (ac_len h8))) ?_
 refine step_gives rfl fun83 rfl (fun w _ _ => lookA_any s.A ac w h8) ?_
 refine step_pure rfl (pure_fieldAddr rfl rfl rfl rfl rfl (by decide)) ?_
 refine step_pure rfl (pure_fieldAddr rfl rfl rfl rfl rfl (by decide)) ?_
 refine step_store 2 rfl rfl rfl rfl rfl rfl rfl rfl (Nat.le_of_ble_eq_true rfl) (show _ = scC (tmLooksF ac s) (.slice a1 l1 c1) (.slice a2 l2 c2) from rfl) ?_
 refine Vc.step_end (fun a w ok => ?_)
 first | (refine WPs.run ?_ a w ok; clear ok w a) | skip
 repeat refine s_seqs ?_
 refine s_reg ?_
 refine step_pure rfl (pure_fieldAddr rfl rfl rfl rfl rfl (by decide)) ?_
 refine step_pure rfl (pure_load_agg (i := 2) rfl rfl rfl rfl rfl (Nat.le_of_ble_eq_true rfl) rfl) ?_
 refine step_store_agg 0 rfl rfl rfl (of_one rfl) rfl rfl rfl rfl (Nat.le_of_ble_eq_true rfl) (show _ = scC (tmLooksF ac s) (.slice a1 l1 c1) (.slice a2 l2 c2) from rfl) ?_
 refine Vc.step_end (fun a w ok => ?_)
 first | (refine WPs.run ?_ a w ok; clear ok w a) | skip
 exact s_ret fun a w ok => ends_givesP on (.inr rfl) ok (res_cell_agg (i := 0) Try.results60 rfl rfl rfl rfl rfl (Nat.le_of_ble_eq_true rfl) rfl) scR_mono ⟨_, rfl, scv_to hs rfl rfl⟩
end Go.Proofs.Ytadginombcjbeaa
