/- What sequences do, the most of them: walked. -/
import Derived.Test.YtadginombcjbeaaT11
namespace Go.Proofs.Ytadginombcjbeaa
open Go.RowKit Go.Vc
set_option linter.unusedVariables false
/-- What stands there, in the scope. -/
abbrev AtZ (w : World) (Z : Nat → Prop) : Addr → Value → Prop := fun p x => w.cell? p = some x ∧ Z p.block
abbrev tS : TypeId := 72
theorem ok_lens {s : Scr} (h : ScOk s) : s.cells.length ≤ maxLen ∧ s.main.length ≤ maxLen := by
 obtain ⟨W, q, hw, hq, hw1, hw2, hq1, hq2, hl, hle⟩ := wh_nat h
 have hmx : 5000 ≤ maxLen := by decide
 refine ⟨by omega, ?_⟩
 have := okCells_len h.main
 split at this
 ·rw [hw, hq, mulN] at this; omega
 ·omega
set_option maxHeartbeats 1000000 in
theorem at_P (s : Scr) (cs : List Value) (x y : Int) (w : World) {Z : Nat → Prop} (hZ : ∀ j, w.heap.size ≤ j → Z j) (hs : ScV (At w) s cs) (ok0 : ScOk s) : GivesP tb 76 [.agg cs.toArray, .int .i64 x, .int .i64 y] w Z (ScR (moveF x y s)) := by
 replace hs := scv_cz hs
 obtain ⟨a1, l1, c1, a2, l2, c2, rfl⟩ := scv_agg hs
 obtain ⟨k1, k2⟩ := ok_lens ok0
 refine givesP_of (fn := Try.f76) Try.func76 rfl Try.ntmps76 rfl hZ scR_mono (fun on => ?_)
 repeat refine s_seqs ?_
 refine s_reg ?_
 refine step_box_agg rfl rfl (fun b3 => ?_)
 refine step_alloc rfl zero32 (fun b6 => ?_)
 refine Vc.step_end (fun a w ok => ?_)
 first | (refine WPs.run ?_ a w ok; clear ok w a) | skip
 repeat refine s_seqs ?_
 refine s_reg ?_
 refine step_pure rfl (pure_fieldAddr rfl rfl rfl rfl rfl (by decide)) ?_
 refine step_pure rfl (pure_load_agg (i := 1) rfl rfl rfl rfl rfl (Nat.le_of_ble_eq_true rfl) rfl) ?_
 refine qm rfl rfl ?_
 refine qm rfl rfl ?_
 refine step_givesP on.sc rfl fun14 rfl (fun w' Z' hh kp hZ hC => move_P s _ x y w' hZ (hs.mono (Cz.now kp)) k1 k2) ?_
 rintro u E5 g ⟨cs', rfl, hs'⟩
 replace on := on.next g
 try rw [doF_ok ok0] at hs'
 obtain ⟨hl5, ho5⟩ := scv_form hs'
 refine step_store_agg 0 rfl rfl rfl ho5 rfl hl5 rfl rfl (Nat.le_of_ble_eq_true rfl) (splice_all hl5) ?_
 refine Vc.step_end (fun a w ok => ?_)
 first | (refine WPs.run ?_ a w ok; clear ok w a) | skip
 exact s_ret fun a w ok => ends_givesP on (.inr rfl) ok (res_cell_agg (i := 0) Try.results76 rfl rfl rfl rfl rfl (by show 0 + 16 ≤ cs'.length; omega) (load_all hl5)) scR_mono ⟨cs', rfl, hs'⟩
set_option maxHeartbeats 1000000 in
theorem right_P (s : Scr) (cs : List Value) (ac : Ac) (w : World) {Z : Nat → Prop} (hZ : ∀ j, w.heap.size ≤ j → Z j) (hs : ScV (At w) s cs) (ok0 : ScOk s) (h8 : Ac8 ac) : GivesP tb 45 [.agg cs.toArray, .agg (acC ac).toArray] w Z (ScR (tmRight ac s)) := by
 replace hs := scv_cz hs
 obtain ⟨a1, l1, c1, a2, l2, c2, rfl⟩ := scv_agg hs
 obtain ⟨k1, k2⟩ := ok_lens ok0
 have hN := tmN_in ac
 have hW := ok0.w
 have hH := ok0.h
 have hX := ok0.x
 have hY := ok0.y
 have hT := ok0.rows
 refine givesP_of (fn := Try.f45) Try.func45 rfl Try.ntmps45 rfl hZ scR_mono (fun on => ?_)
 repeat refine s_seqs ?_
 refine s_reg ?_
 refine step_box_agg rfl rfl (fun b2 => ?_)
 refine step_box_agg rfl rfl (fun b3 => ?_)
 refine step_alloc rfl zero32 (fun b4 => ?_)
 refine Vc.step_end (fun a w ok => ?_)
 first | (refine WPs.run ?_ a w ok; clear ok w a) | skip
 repeat refine s_seqs ?_
 refine s_dreg [3, 9, 17, 27, 35, 43, 49, 57, 65, 75, 84, 92] ([⟨b3, acC ac, tA⟩, ⟨b2, scC s (.slice a1 l1 c1) (.slice a2 l2 c2), tS⟩]) follows (by kernel_rfl) ?_
 refine d_pure1 rfl rfl rfl (pure_load_agg (i := 1) rfl rfl rfl rfl rfl (Nat.le_of_ble_eq_true rfl) rfl) (by first | exact SubMem.refl _ | exact (SubMem.refl _).cons | exact (SubMem.refl _).cons.cons | exact (SubMem.refl _).cons.cons.cons | exact (SubMem.refl _).cons.cons.cons.cons | exact (fun w hh => Has.sublist (by repeat (first | exact List.Sublist.refl _ | exact List.nil_sublist _ | apply List.Sublist.cons_cons | apply List.Sublist.cons)) hh)) ?_
 refine d_pure0 rfl rfl rfl (pure_fieldAddr rfl rfl rfl rfl rfl (by decide)) ?_
 refine d_pure0 rfl rfl rfl (pure_fieldAddr rfl rfl rfl rfl rfl (by decide)) ?_
 refine d_pure1 rfl rfl rfl (pure_load (i := 1) rfl rfl rfl rfl rfl rfl) (by first | exact SubMem.refl _ | exact (SubMem.refl _).cons | exact (SubMem.refl _).cons.cons | exact (SubMem.refl _).cons.cons.cons | exact (SubMem.refl _).cons.cons.cons.cons | exact (fun w hh => Has.sublist (by repeat (first | exact List.Sublist.refl _ | exact List.nil_sublist _ | apply List.Sublist.cons_cons | apply List.Sublist.cons)) hh)) ?_
 refine d_pure1 rfl rfl rfl (pure_load_agg (i := 0) (vs := acC ac) rfl rfl rfl rfl rfl (ac_le h8) (load_all (ac_len h8))) (by first | exact SubMem.refl _ | exact (SubMem.refl _).cons | exact (SubMem.refl _).cons.cons | exact (SubMem.refl _).cons.cons.cons | exact (SubMem.refl _).cons.cons.cons.cons | exact (fun w hh => Has.sublist (by repeat (first | exact List.Sublist.refl _ | exact List.nil_sublist _ | apply List.Sublist.cons_cons | apply List.Sublist.cons)) hh)) ?_
 refine d_gives rfl rfl rfl fun77 rfl (fun w _ _ => n_any ac w h8) (by first | exact SubMem.refl _ | exact (SubMem.refl _).cons | exact (SubMem.refl _).cons.cons | exact (SubMem.refl _).cons.cons.cons | exact (SubMem.refl _).cons.cons.cons.cons | exact (fun w hh => Has.sublist (by repeat (first | exact List.Sublist.refl _ | exact List.nil_sublist _ | apply List.Sublist.cons_cons | apply List.Sublist.cons)) hh)) ?_
 first | refine d_pure0 rfl rfl rfl (pure_add64 rfl rfl (by omega) (by omega)) ?_ | refine d_pure0 rfl rfl rfl (pure_add rfl rfl) ?_
 refine d_pure0 rfl rfl rfl (pure_fieldAddr rfl rfl rfl rfl rfl (by decide)) ?_
 refine d_pure0 rfl rfl rfl (pure_fieldAddr rfl rfl rfl rfl rfl (by decide)) ?_
 refine d_pure1 rfl rfl rfl (pure_load (i := 1) rfl rfl rfl rfl rfl rfl) (by first | exact SubMem.refl _ | exact (SubMem.refl _).cons | exact (SubMem.refl _).cons.cons | exact (SubMem.refl _).cons.cons.cons | exact (SubMem.refl _).cons.cons.cons.cons | exact (fun w hh => Has.sublist (by repeat (first | exact List.Sublist.refl _ | exact List.nil_sublist _ | apply List.Sublist.cons_cons | apply List.Sublist.cons)) hh)) ?_
 refine d_givesP on.sc rfl rfl rfl fun76 rfl (fun w' Z' hh kp hZ hC => at_P s _ (s.X + tmN ac) (s.Y) w' hZ (hs.mono (Cz.now kp)) ok0) rfl ?_
 rintro u E5 g ⟨cs', rfl, hs'⟩
 replace on := on.next g
 try rw [doF_ok ok0] at hs'
 obtain ⟨hl5, ho5⟩ := scv_form hs'
 refine d_store_agg 0 rfl rfl rfl rfl rfl ho5 rfl hl5 rfl rfl (Nat.le_of_ble_eq_true rfl) (splice_all hl5) rfl rfl ?_
 refine d_end (fun a w ok => ?_)
 first | (refine WPs.run ?_ a w ok; clear ok w a) | skip
 exact s_ret fun a w ok => ends_givesP on (.inr rfl) ok (res_cell_agg (i := 0) Try.results45 rfl rfl rfl rfl rfl (by show 0 + 16 ≤ cs'.length; omega) (load_all hl5)) scR_mono ⟨cs', rfl, hs'⟩
set_option maxHeartbeats 1000000 in
theorem left_P (s : Scr) (cs : List Value) (ac : Ac) (w : World) {Z : Nat → Prop} (hZ : ∀ j, w.heap.size ≤ j → Z j) (hs : ScV (At w) s cs) (ok0 : ScOk s) (h8 : Ac8 ac) : GivesP tb 46 [.agg cs.toArray, .agg (acC ac).toArray] w Z (ScR (tmLeft ac s)) := by
 replace hs := scv_cz hs
 obtain ⟨a1, l1, c1, a2, l2, c2, rfl⟩ := scv_agg hs
 obtain ⟨k1, k2⟩ := ok_lens ok0
 have hN := tmN_in ac
 have hW := ok0.w
 have hH := ok0.h
 have hX := ok0.x
 have hY := ok0.y
 have hT := ok0.rows
 refine givesP_of (fn := Try.f46) Try.func46 rfl Try.ntmps46 rfl hZ scR_mono (fun on => ?_)
 repeat refine s_seqs ?_
 refine s_reg ?_
 refine step_box_agg rfl rfl (fun b2 => ?_)
 refine step_box_agg rfl rfl (fun b3 => ?_)
 refine step_alloc rfl zero32 (fun b4 => ?_)
 refine Vc.step_end (fun a w ok => ?_)
 first | (refine WPs.run ?_ a w ok; clear ok w a) | skip
 repeat refine s_seqs ?_
 refine s_dreg [3, 9, 17, 27, 35, 43, 49, 57, 65, 75, 84, 92] ([⟨b3, acC ac, tA⟩, ⟨b2, scC s (.slice a1 l1 c1) (.slice a2 l2 c2), tS⟩]) follows (by kernel_rfl) ?_
 refine d_pure1 rfl rfl rfl (pure_load_agg (i := 1) rfl rfl rfl rfl rfl (Nat.le_of_ble_eq_true rfl) rfl) (by first | exact SubMem.refl _ | exact (SubMem.refl _).cons | exact (SubMem.refl _).cons.cons | exact (SubMem.refl _).cons.cons.cons | exact (SubMem.refl _).cons.cons.cons.cons | exact (fun w hh => Has.sublist (by repeat (first | exact List.Sublist.refl _ | exact List.nil_sublist _ | apply List.Sublist.cons_cons | apply List.Sublist.cons)) hh)) ?_
 refine d_pure0 rfl rfl rfl (pure_fieldAddr rfl rfl rfl rfl rfl (by decide)) ?_
 refine d_pure0 rfl rfl rfl (pure_fieldAddr rfl rfl rfl rfl rfl (by decide)) ?_
 refine d_pure1 rfl rfl rfl (pure_load (i := 1) rfl rfl rfl rfl rfl rfl) (by first | exact SubMem.refl _ | exact (SubMem.refl _).cons | exact (SubMem.refl _).cons.cons | exact (SubMem.refl _).cons.cons.cons | exact (SubMem.refl _).cons.cons.cons.cons | exact (fun w hh => Has.sublist (by repeat (first | exact List.Sublist.refl _ | exact List.nil_sublist _ | apply List.Sublist.cons_cons | apply List.Sublist.cons)) hh)) ?_
 refine d_pure1 rfl rfl rfl (pure_load_agg (i := 0) (vs := acC ac) rfl rfl rfl rfl rfl (ac_le h8) (load_all (ac_len h8))) (by first | exact SubMem.refl _ | exact (SubMem.refl _).cons | exact (SubMem.refl _).cons.cons | exact (SubMem.refl _).cons.cons.cons | exact (SubMem.refl _).cons.cons.cons.cons | exact (fun w hh => Has.sublist (by repeat (first | exact List.Sublist.refl _ | exact List.nil_sublist _ | apply List.Sublist.cons_cons | apply List.Sublist.cons)) hh)) ?_
 refine d_gives rfl rfl rfl fun77 rfl (fun w _ _ => n_any ac w h8) (by first | exact SubMem.refl _ | exact (SubMem.refl _).cons | exact (SubMem.refl _).cons.cons | exact (SubMem.refl _).cons.cons.cons | exact (SubMem.refl _).cons.cons.cons.cons | exact (fun w hh => Has.sublist (by repeat (first | exact List.Sublist.refl _ | exact List.nil_sublist _ | apply List.Sublist.cons_cons | apply List.Sublist.cons)) hh)) ?_
 first | refine d_pure0 rfl rfl rfl (pure_sub64 rfl rfl (by omega) (by omega)) ?_ | refine d_pure0 rfl rfl rfl (pure_sub rfl rfl) ?_
 refine d_pure0 rfl rfl rfl (pure_fieldAddr rfl rfl rfl rfl rfl (by decide)) ?_
 refine d_pure0 rfl rfl rfl (pure_fieldAddr rfl rfl rfl rfl rfl (by decide)) ?_
 refine d_pure1 rfl rfl rfl (pure_load (i := 1) rfl rfl rfl rfl rfl rfl) (by first | exact SubMem.refl _ | exact (SubMem.refl _).cons | exact (SubMem.refl _).cons.cons | exact (SubMem.refl _).cons.cons.cons | exact (SubMem.refl _).cons.cons.cons.cons | exact (fun w hh => Has.sublist (by repeat (first | exact List.Sublist.refl _ | exact List.nil_sublist _ | apply List.Sublist.cons_cons | apply List.Sublist.cons)) hh)) ?_
 refine d_givesP on.sc rfl rfl rfl fun76 rfl (fun w' Z' hh kp hZ hC => at_P s _ (s.X - tmN ac) (s.Y) w' hZ (hs.mono (Cz.now kp)) ok0) rfl ?_
 rintro u E5 g ⟨cs', rfl, hs'⟩
 replace on := on.next g
 try rw [doF_ok ok0] at hs'
 obtain ⟨hl5, ho5⟩ := scv_form hs'
 refine d_store_agg 0 rfl rfl rfl rfl rfl ho5 rfl hl5 rfl rfl (Nat.le_of_ble_eq_true rfl) (splice_all hl5) rfl rfl ?_
 refine d_end (fun a w ok => ?_)
 first | (refine WPs.run ?_ a w ok; clear ok w a) | skip
 exact s_ret fun a w ok => ends_givesP on (.inr rfl) ok (res_cell_agg (i := 0) Try.results46 rfl rfl rfl rfl rfl (by show 0 + 16 ≤ cs'.length; omega) (load_all hl5)) scR_mono ⟨cs', rfl, hs'⟩
set_option maxHeartbeats 1000000 in
theorem column_P (s : Scr) (cs : List Value) (ac : Ac) (w : World) {Z : Nat → Prop} (hZ : ∀ j, w.heap.size ≤ j → Z j) (hs : ScV (At w) s cs) (ok0 : ScOk s) (h8 : Ac8 ac) : GivesP tb 47 [.agg cs.toArray, .agg (acC ac).toArray] w Z (ScR (tmColumn ac s)) := by
 replace hs := scv_cz hs
 obtain ⟨a1, l1, c1, a2, l2, c2, rfl⟩ := scv_agg hs
 obtain ⟨k1, k2⟩ := ok_lens ok0
 have hN := tmN_in ac
 have hW := ok0.w
 have hH := ok0.h
 have hX := ok0.x
 have hY := ok0.y
 have hT := ok0.rows
 refine givesP_of (fn := Try.f47) Try.func47 rfl Try.ntmps47 rfl hZ scR_mono (fun on => ?_)
 repeat refine s_seqs ?_
 refine s_reg ?_
 refine step_box_agg rfl rfl (fun b2 => ?_)
 refine step_box_agg rfl rfl (fun b3 => ?_)
 refine step_alloc rfl zero32 (fun b4 => ?_)
 refine Vc.step_end (fun a w ok => ?_)
 first | (refine WPs.run ?_ a w ok; clear ok w a) | skip
 repeat refine s_seqs ?_
 refine s_dreg [3, 11, 19, 25, 33, 41, 51, 60, 68] ([⟨b3, acC ac, tA⟩, ⟨b2, scC s (.slice a1 l1 c1) (.slice a2 l2 c2), tS⟩]) follows (by kernel_rfl) ?_
 refine d_pure1 rfl rfl rfl (pure_load_agg (i := 1) rfl rfl rfl rfl rfl (Nat.le_of_ble_eq_true rfl) rfl) (by first | exact SubMem.refl _ | exact (SubMem.refl _).cons | exact (SubMem.refl _).cons.cons | exact (SubMem.refl _).cons.cons.cons | exact (SubMem.refl _).cons.cons.cons.cons | exact (fun w hh => Has.sublist (by repeat (first | exact List.Sublist.refl _ | exact List.nil_sublist _ | apply List.Sublist.cons_cons | apply List.Sublist.cons)) hh)) ?_
 refine d_pure1 rfl rfl rfl (pure_load_agg (i := 0) (vs := acC ac) rfl rfl rfl rfl rfl (ac_le h8) (load_all (ac_len h8))) (by first | exact SubMem.refl _ | exact (SubMem.refl _).cons | exact (SubMem.refl _).cons.cons | exact (SubMem.refl _).cons.cons.cons | exact (SubMem.refl _).cons.cons.cons.cons | exact (fun w hh => Has.sublist (by repeat (first | exact List.Sublist.refl _ | exact List.nil_sublist _ | apply List.Sublist.cons_cons | apply List.Sublist.cons)) hh)) ?_
 refine d_gives rfl rfl rfl fun77 rfl (fun w _ _ => n_any ac w h8) (by first | exact SubMem.refl _ | exact (SubMem.refl _).cons | exact (SubMem.refl _).cons.cons | exact (SubMem.refl _).cons.cons.cons | exact (SubMem.refl _).cons.cons.cons.cons | exact (fun w hh => Has.sublist (by repeat (first | exact List.Sublist.refl _ | exact List.nil_sublist _ | apply List.Sublist.cons_cons | apply List.Sublist.cons)) hh)) ?_
 first | refine d_pure0 rfl rfl rfl (pure_sub64 rfl rfl (by omega) (by omega)) ?_ | refine d_pure0 rfl rfl rfl (pure_sub rfl rfl) ?_
 refine d_pure0 rfl rfl rfl (pure_fieldAddr rfl rfl rfl rfl rfl (by decide)) ?_
 refine d_pure0 rfl rfl rfl (pure_fieldAddr rfl rfl rfl rfl rfl (by decide)) ?_
 refine d_pure1 rfl rfl rfl (pure_load (i := 1) rfl rfl rfl rfl rfl rfl) (by first | exact SubMem.refl _ | exact (SubMem.refl _).cons | exact (SubMem.refl _).cons.cons | exact (SubMem.refl _).cons.cons.cons | exact (SubMem.refl _).cons.cons.cons.cons | exact (fun w hh => Has.sublist (by repeat (first | exact List.Sublist.refl _ | exact List.nil_sublist _ | apply List.Sublist.cons_cons | apply List.Sublist.cons)) hh)) ?_
 refine d_givesP on.sc rfl rfl rfl fun76 rfl (fun w' Z' hh kp hZ hC => at_P s _ (tmN ac - 1) (s.Y) w' hZ (hs.mono (Cz.now kp)) ok0) rfl ?_
 rintro u E5 g ⟨cs', rfl, hs'⟩
 replace on := on.next g
 try rw [doF_ok ok0] at hs'
 obtain ⟨hl5, ho5⟩ := scv_form hs'
 refine d_store_agg 0 rfl rfl rfl rfl rfl ho5 rfl hl5 rfl rfl (Nat.le_of_ble_eq_true rfl) (splice_all hl5) rfl rfl ?_
 refine d_end (fun a w ok => ?_)
 first | (refine WPs.run ?_ a w ok; clear ok w a) | skip
 exact s_ret fun a w ok => ends_givesP on (.inr rfl) ok (res_cell_agg (i := 0) Try.results47 rfl rfl rfl rfl rfl (by show 0 + 16 ≤ cs'.length; omega) (load_all hl5)) scR_mono ⟨cs', rfl, hs'⟩
set_option maxHeartbeats 1000000 in
theorem row_P (s : Scr) (cs : List Value) (ac : Ac) (w : World) {Z : Nat → Prop} (hZ : ∀ j, w.heap.size ≤ j → Z j) (hs : ScV (At w) s cs) (ok0 : ScOk s) (h8 : Ac8 ac) : GivesP tb 48 [.agg cs.toArray, .agg (acC ac).toArray] w Z (ScR (tmRow ac s)) := by
 replace hs := scv_cz hs
 obtain ⟨a1, l1, c1, a2, l2, c2, rfl⟩ := scv_agg hs
 obtain ⟨k1, k2⟩ := ok_lens ok0
 have hN := tmN_in ac
 have hW := ok0.w
 have hH := ok0.h
 have hX := ok0.x
 have hY := ok0.y
 have hT := ok0.rows
 refine givesP_of (fn := Try.f48) Try.func48 rfl Try.ntmps48 rfl hZ scR_mono (fun on => ?_)
 repeat refine s_seqs ?_
 refine s_reg ?_
 refine step_box_agg rfl rfl (fun b2 => ?_)
 refine step_box_agg rfl rfl (fun b3 => ?_)
 refine step_alloc rfl zero32 (fun b4 => ?_)
 refine Vc.step_end (fun a w ok => ?_)
 first | (refine WPs.run ?_ a w ok; clear ok w a) | skip
 repeat refine s_seqs ?_
 refine s_dreg [3, 9, 17, 27, 35, 43, 49, 60, 68] ([⟨b3, acC ac, tA⟩, ⟨b2, scC s (.slice a1 l1 c1) (.slice a2 l2 c2), tS⟩]) follows (by kernel_rfl) ?_
 refine d_pure1 rfl rfl rfl (pure_load_agg (i := 1) rfl rfl rfl rfl rfl (Nat.le_of_ble_eq_true rfl) rfl) (by first | exact SubMem.refl _ | exact (SubMem.refl _).cons | exact (SubMem.refl _).cons.cons | exact (SubMem.refl _).cons.cons.cons | exact (SubMem.refl _).cons.cons.cons.cons | exact (fun w hh => Has.sublist (by repeat (first | exact List.Sublist.refl _ | exact List.nil_sublist _ | apply List.Sublist.cons_cons | apply List.Sublist.cons)) hh)) ?_
 refine d_pure0 rfl rfl rfl (pure_fieldAddr rfl rfl rfl rfl rfl (by decide)) ?_
 refine d_pure0 rfl rfl rfl (pure_fieldAddr rfl rfl rfl rfl rfl (by decide)) ?_
 refine d_pure1 rfl rfl rfl (pure_load (i := 1) rfl rfl rfl rfl rfl rfl) (by first | exact SubMem.refl _ | exact (SubMem.refl _).cons | exact (SubMem.refl _).cons.cons | exact (SubMem.refl _).cons.cons.cons | exact (SubMem.refl _).cons.cons.cons.cons | exact (fun w hh => Has.sublist (by repeat (first | exact List.Sublist.refl _ | exact List.nil_sublist _ | apply List.Sublist.cons_cons | apply List.Sublist.cons)) hh)) ?_
 refine d_pure1 rfl rfl rfl (pure_load_agg (i := 0) (vs := acC ac) rfl rfl rfl rfl rfl (ac_le h8) (load_all (ac_len h8))) (by first | exact SubMem.refl _ | exact (SubMem.refl _).cons | exact (SubMem.refl _).cons.cons | exact (SubMem.refl _).cons.cons.cons | exact (SubMem.refl _).cons.cons.cons.cons | exact (fun w hh => Has.sublist (by repeat (first | exact List.Sublist.refl _ | exact List.nil_sublist _ | apply List.Sublist.cons_cons | apply List.Sublist.cons)) hh)) ?_
 refine d_gives rfl rfl rfl fun77 rfl (fun w _ _ => n_any ac w h8) (by first | exact SubMem.refl _ | exact (SubMem.refl _).cons | exact (SubMem.refl _).cons.cons | exact (SubMem.refl _).cons.cons.cons | exact (SubMem.refl _).cons.cons.cons.cons | exact (fun w hh => Has.sublist (by repeat (first | exact List.Sublist.refl _ | exact List.nil_sublist _ | apply List.Sublist.cons_cons | apply List.Sublist.cons)) hh)) ?_
 first | refine d_pure0 rfl rfl rfl (pure_sub64 rfl rfl (by omega) (by omega)) ?_ | refine d_pure0 rfl rfl rfl (pure_sub rfl rfl) ?_
 refine d_givesP on.sc rfl rfl rfl fun76 rfl (fun w' Z' hh kp hZ hC => at_P s _ (s.X) (tmN ac - 1) w' hZ (hs.mono (Cz.now kp)) ok0) rfl ?_
 rintro u E5 g ⟨cs', rfl, hs'⟩
 replace on := on.next g
 try rw [doF_ok ok0] at hs'
 obtain ⟨hl5, ho5⟩ := scv_form hs'
 refine d_store_agg 0 rfl rfl rfl rfl rfl ho5 rfl hl5 rfl rfl (Nat.le_of_ble_eq_true rfl) (splice_all hl5) rfl rfl ?_
 refine d_end (fun a w ok => ?_)
 first | (refine WPs.run ?_ a w ok; clear ok w a) | skip
 exact s_ret fun a w ok => ends_givesP on (.inr rfl) ok (res_cell_agg (i := 0) Try.results48 rfl rfl rfl rfl rfl (by show 0 + 16 ≤ cs'.length; omega) (load_all hl5)) scR_mono ⟨cs', rfl, hs'⟩
set_option maxHeartbeats 1000000 in
theorem place_P (s : Scr) (cs : List Value) (ac : Ac) (w : World) {Z : Nat → Prop} (hZ : ∀ j, w.heap.size ≤ j → Z j) (hs : ScV (At w) s cs) (ok0 : ScOk s) (h8 : Ac8 ac) : GivesP tb 49 [.agg cs.toArray, .agg (acC ac).toArray] w Z (ScR (tmPlace ac s)) := by
 replace hs := scv_cz hs
 obtain ⟨a1, l1, c1, a2, l2, c2, rfl⟩ := scv_agg hs
 obtain ⟨k1, k2⟩ := ok_lens ok0
 have hN := tmN_in ac
 have hW := ok0.w
 have hH := ok0.h
 have hX := ok0.x
 have hY := ok0.y
 have hT := ok0.rows
 have hP := tmParam_in ac (i := 1) (z := 1) (by decide)
 refine givesP_of (fn := Try.f49) Try.func49 rfl Try.ntmps49 rfl hZ scR_mono (fun on => ?_)
 repeat refine s_seqs ?_
 refine s_reg ?_
 refine step_box_agg rfl rfl (fun b2 => ?_)
 refine step_box_agg rfl rfl (fun b3 => ?_)
 refine step_alloc rfl zero32 (fun b4 => ?_)
 refine Vc.step_end (fun a w ok => ?_)
 first | (refine WPs.run ?_ a w ok; clear ok w a) | skip
 repeat refine s_seqs ?_
 refine s_dreg [3, 11, 19, 25, 35, 43, 49, 60, 68] ([⟨b3, acC ac, tA⟩, ⟨b2, scC s (.slice a1 l1 c1) (.slice a2 l2 c2), tS⟩]) follows (by kernel_rfl) ?_
 refine d_pure1 rfl rfl rfl (pure_load_agg (i := 1) rfl rfl rfl rfl rfl (Nat.le_of_ble_eq_true rfl) rfl) (by first | exact SubMem.refl _ | exact (SubMem.refl _).cons | exact (SubMem.refl _).cons.cons | exact (SubMem.refl _).cons.cons.cons | exact (SubMem.refl _).cons.cons.cons.cons | exact (fun w hh => Has.sublist (by repeat (first | exact List.Sublist.refl _ | exact List.nil_sublist _ | apply List.Sublist.cons_cons | apply List.Sublist.cons)) hh)) ?_
 refine d_pure1 rfl rfl rfl (pure_load_agg (i := 0) (vs := acC ac) rfl rfl rfl rfl rfl (ac_le h8) (load_all (ac_len h8))) (by first | exact SubMem.refl _ | exact (SubMem.refl _).cons | exact (SubMem.refl _).cons.cons | exact (SubMem.refl _).cons.cons.cons | exact (SubMem.refl _).cons.cons.cons.cons | exact (fun w hh => Has.sublist (by repeat (first | exact List.Sublist.refl _ | exact List.nil_sublist _ | apply List.Sublist.cons_cons | apply List.Sublist.cons)) hh)) ?_
 refine d_gives rfl rfl rfl fun78 rfl (fun w _ _ => param_any ac 1 1 w h8) (by first | exact SubMem.refl _ | exact (SubMem.refl _).cons | exact (SubMem.refl _).cons.cons | exact (SubMem.refl _).cons.cons.cons | exact (SubMem.refl _).cons.cons.cons.cons | exact (fun w hh => Has.sublist (by repeat (first | exact List.Sublist.refl _ | exact List.nil_sublist _ | apply List.Sublist.cons_cons | apply List.Sublist.cons)) hh)) ?_
 first | refine d_pure0 rfl rfl rfl (pure_sub64 rfl rfl (by omega) (by omega)) ?_ | refine d_pure0 rfl rfl rfl (pure_sub rfl rfl) ?_
 refine d_pure1 rfl rfl rfl (pure_load_agg (i := 0) (vs := acC ac) rfl rfl rfl rfl rfl (ac_le h8) (load_all (ac_len h8))) (by first | exact SubMem.refl _ | exact (SubMem.refl _).cons | exact (SubMem.refl _).cons.cons | exact (SubMem.refl _).cons.cons.cons | exact (SubMem.refl _).cons.cons.cons.cons | exact (fun w hh => Has.sublist (by repeat (first | exact List.Sublist.refl _ | exact List.nil_sublist _ | apply List.Sublist.cons_cons | apply List.Sublist.cons)) hh)) ?_
 refine d_gives rfl rfl rfl fun77 rfl (fun w _ _ => n_any ac w h8) (by first | exact SubMem.refl _ | exact (SubMem.refl _).cons | exact (SubMem.refl _).cons.cons | exact (SubMem.refl _).cons.cons.cons | exact (SubMem.refl _).cons.cons.cons.cons | exact (fun w hh => Has.sublist (by repeat (first | exact List.Sublist.refl _ | exact List.nil_sublist _ | apply List.Sublist.cons_cons | apply List.Sublist.cons)) hh)) ?_
 first | refine d_pure0 rfl rfl rfl (pure_sub64 rfl rfl (by omega) (by omega)) ?_ | refine d_pure0 rfl rfl rfl (pure_sub rfl rfl) ?_
 refine d_givesP on.sc rfl rfl rfl fun76 rfl (fun w' Z' hh kp hZ hC => at_P s _ (tmParam ac 1 1 - 1) (tmN ac - 1) w' hZ (hs.mono (Cz.now kp)) ok0) rfl ?_
 rintro u E5 g ⟨cs', rfl, hs'⟩
 replace on := on.next g
 try rw [doF_ok ok0] at hs'
 obtain ⟨hl5, ho5⟩ := scv_form hs'
 refine d_store_agg 0 rfl rfl rfl rfl rfl ho5 rfl hl5 rfl rfl (Nat.le_of_ble_eq_true rfl) (splice_all hl5) rfl rfl ?_
 refine d_end (fun a w ok => ?_)
 first | (refine WPs.run ?_ a w ok; clear ok w a) | skip
 exact s_ret fun a w ok => ends_givesP on (.inr rfl) ok (res_cell_agg (i := 0) Try.results49 rfl rfl rfl rfl rfl (by show 0 + 16 ≤ cs'.length; omega) (load_all hl5)) scR_mono ⟨cs', rfl, hs'⟩
set_option maxHeartbeats 1000000 in
theorem up_S (s : Scr) (cs : List Value) (ac : Ac) (w : World) {Z : Nat → Prop} (hZ : ∀ j, w.heap.size ≤ j → Z j) (hs : ScV (At w) s cs) (ok0 : ScOk s) (h8 : Ac8 ac) : GivesP tb 43 [.agg cs.toArray, .agg (acC ac).toArray] w Z (ScR (tmUp ac s)) := by
 replace hs := scv_cz hs
 obtain ⟨a1, l1, c1, a2, l2, c2, rfl⟩ := scv_agg hs
 obtain ⟨k1, k2⟩ := ok_lens ok0
 have hN := tmN_in ac
 have hW := ok0.w
 have hH := ok0.h
 have hX := ok0.x
 have hY := ok0.y
 have hT := ok0.rows
 refine givesP_of (fn := Try.f43) Try.func43 rfl Try.ntmps43 rfl hZ scR_mono (fun on => ?_)
 repeat refine s_seqs ?_
 refine s_reg ?_
 refine step_box_agg rfl rfl (fun b2 => ?_)
 refine step_box_agg rfl rfl (fun b3 => ?_)
 refine step_alloc rfl zero32 (fun b4 => ?_)
 refine Vc.step_end (fun a w ok => ?_)
 first | (refine WPs.run ?_ a w ok; clear ok w a) | skip
 repeat refine s_seqs ?_
 refine s_reg ?_
 refine step_pure rfl (pure_fieldAddr rfl rfl rfl rfl rfl (by decide)) ?_
 refine step_pure rfl (pure_fieldAddr rfl rfl rfl rfl rfl (by decide)) ?_
 refine step_pure rfl (pure_load (i := 2) rfl rfl rfl rfl rfl rfl) ?_
 refine qa rfl rfl ?_
 refine Vc.step_end (fun a w ok => ?_)
 first | (refine WPs.run ?_ a w ok; clear ok w a) | skip
 repeat refine s_seqs ?_
 refine s_reg ?_
 refine step_pure rfl (pure_fieldAddr rfl rfl rfl rfl rfl (by decide)) ?_
 refine step_pure rfl (pure_fieldAddr rfl rfl rfl rfl rfl (by decide)) ?_
 refine step_pure rfl (pure_load (i := 2) rfl rfl rfl rfl rfl rfl) ?_
 refine qm rfl rfl ?_
 refine step_pure rfl (pure_lss rfl rfl) ?_
 refine Vc.step_end (fun a w ok => ?_)
 first | (refine WPs.run ?_ a w ok; clear ok w a) | skip
 obtain ⟨q, hq⟩ : ∃ q : Int, q = (if s.Y < s.top then 0 else s.top) := ⟨_, rfl⟩
 repeat refine s_seqs ?_
 refine s_meet [(2, .pointer (some ⟨b2, 0, none⟩)), (3, .pointer (some ⟨b3, 0, none⟩)), (4, .pointer (some ⟨b4, 0, none⟩)), (5, .int .i64 q)] [⟨b4, scC zScr (.slice none 0 0) (.slice none 0 0), tSc⟩, ⟨b3, acC ac, tA⟩, ⟨b2, scC s (.slice a1 l1 c1) (.slice a2 l2 c2), tS⟩] ?_ (fun a w ok => WPs.run ?_ a w ok)
 ·repeat refine c_seq ?_
  refine c_cond rfl (fun h => ?_) (fun h => ?_)
  ·rw [if_pos (of_decide_eq_true h)] at hq
   subst hq
   repeat refine c_seq ?_
   refine c_region ?_
   refine qa rfl rfl ?_
   refine step_nil ?_
   exact less_of ⟨rfl, rfl, rfl, rfl, trivial⟩ rfl
  ·rw [if_neg (of_decide_eq_false h)] at hq
   subst hq
   exact c_skip (less_of ⟨rfl, rfl, rfl, rfl, trivial⟩ rfl)
 repeat refine s_seqs ?_
 refine s_dreg [3, 9, 17, 27, 33, 41, 51, 59, 67, 73, 81, 89, 100, 108] ([⟨b3, acC ac, tA⟩, ⟨b2, scC s (.slice a1 l1 c1) (.slice a2 l2 c2), tS⟩]) follows (by kernel_rfl) ?_
 refine d_pure1 rfl rfl rfl (pure_load_agg (i := 1) rfl rfl rfl rfl rfl (Nat.le_of_ble_eq_true rfl) rfl) (by first | exact SubMem.refl _ | exact (SubMem.refl _).cons | exact (SubMem.refl _).cons.cons | exact (SubMem.refl _).cons.cons.cons | exact (SubMem.refl _).cons.cons.cons.cons | exact (fun w hh => Has.sublist (by repeat (first | exact List.Sublist.refl _ | exact List.nil_sublist _ | apply List.Sublist.cons_cons | apply List.Sublist.cons)) hh)) ?_
 refine d_pure0 rfl rfl rfl (pure_fieldAddr rfl rfl rfl rfl rfl (by decide)) ?_
 refine d_pure0 rfl rfl rfl (pure_fieldAddr rfl rfl rfl rfl rfl (by decide)) ?_
 refine d_pure1 rfl rfl rfl (pure_load (i := 1) rfl rfl rfl rfl rfl rfl) (by first | exact SubMem.refl _ | exact (SubMem.refl _).cons | exact (SubMem.refl _).cons.cons | exact (SubMem.refl _).cons.cons.cons | exact (SubMem.refl _).cons.cons.cons.cons | exact (fun w hh => Has.sublist (by repeat (first | exact List.Sublist.refl _ | exact List.nil_sublist _ | apply List.Sublist.cons_cons | apply List.Sublist.cons)) hh)) ?_
 refine d_pure0 rfl rfl rfl (pure_fieldAddr rfl rfl rfl rfl rfl (by decide)) ?_
 refine d_pure0 rfl rfl rfl (pure_fieldAddr rfl rfl rfl rfl rfl (by decide)) ?_
 refine d_pure1 rfl rfl rfl (pure_load (i := 1) rfl rfl rfl rfl rfl rfl) (by first | exact SubMem.refl _ | exact (SubMem.refl _).cons | exact (SubMem.refl _).cons.cons | exact (SubMem.refl _).cons.cons.cons | exact (SubMem.refl _).cons.cons.cons.cons | exact (fun w hh => Has.sublist (by repeat (first | exact List.Sublist.refl _ | exact List.nil_sublist _ | apply List.Sublist.cons_cons | apply List.Sublist.cons)) hh)) ?_
 refine d_pure1 rfl rfl rfl (pure_load_agg (i := 0) (vs := acC ac) rfl rfl rfl rfl rfl (ac_le h8) (load_all (ac_len h8))) (by first | exact SubMem.refl _ | exact (SubMem.refl _).cons | exact (SubMem.refl _).cons.cons | exact (SubMem.refl _).cons.cons.cons | exact (SubMem.refl _).cons.cons.cons.cons | exact (fun w hh => Has.sublist (by repeat (first | exact List.Sublist.refl _ | exact List.nil_sublist _ | apply List.Sublist.cons_cons | apply List.Sublist.cons)) hh)) ?_
 refine d_gives rfl rfl rfl fun77 rfl (fun w _ _ => n_any ac w h8) (by first | exact SubMem.refl _ | exact (SubMem.refl _).cons | exact (SubMem.refl _).cons.cons | exact (SubMem.refl _).cons.cons.cons | exact (SubMem.refl _).cons.cons.cons.cons | exact (fun w hh => Has.sublist (by repeat (first | exact List.Sublist.refl _ | exact List.nil_sublist _ | apply List.Sublist.cons_cons | apply List.Sublist.cons)) hh)) ?_
 first | refine d_pure0 rfl rfl rfl (pure_sub64 rfl rfl (by omega) (by omega)) ?_ | refine d_pure0 rfl rfl rfl (pure_sub rfl rfl) ?_
 refine qd rfl rfl rfl rfl ?_
 refine d_pure0 rfl rfl rfl (pure_max rfl rfl) ?_
 refine d_givesP on.sc rfl rfl rfl fun76 rfl (fun w' Z' hh kp hZ hC => at_P s _ (s.X) (max (s.Y - tmN ac) q) w' hZ (hs.mono (Cz.now kp)) ok0) rfl ?_
 rintro u E5 g ⟨cs', rfl, hs'⟩
 replace on := on.next g
 try rw [doF_ok ok0] at hs'
 obtain ⟨hl5, ho5⟩ := scv_form hs'
 refine d_store_agg 0 rfl rfl rfl rfl rfl ho5 rfl hl5 rfl rfl (Nat.le_of_ble_eq_true rfl) (splice_all hl5) rfl rfl ?_
 refine d_end (fun a w ok => ?_)
 first | (refine WPs.run ?_ a w ok; clear ok w a) | skip
 rw [hq] at hs'
 exact s_ret fun a w ok => ends_givesP on (.inr rfl) ok (res_cell_agg (i := 0) Try.results43 rfl rfl rfl rfl rfl (by show 0 + 16 ≤ cs'.length; omega) (load_all hl5)) scR_mono ⟨cs', rfl, hs'⟩
set_option maxHeartbeats 1000000 in
theorem down_S (s : Scr) (cs : List Value) (ac : Ac) (w : World) {Z : Nat → Prop} (hZ : ∀ j, w.heap.size ≤ j → Z j) (hs : ScV (At w) s cs) (ok0 : ScOk s) (h8 : Ac8 ac) : GivesP tb 44 [.agg cs.toArray, .agg (acC ac).toArray] w Z (ScR (tmDown ac s)) := by
 replace hs := scv_cz hs
 obtain ⟨a1, l1, c1, a2, l2, c2, rfl⟩ := scv_agg hs
 obtain ⟨k1, k2⟩ := ok_lens ok0
 have hN := tmN_in ac
 have hW := ok0.w
 have hH := ok0.h
 have hX := ok0.x
 have hY := ok0.y
 have hT := ok0.rows
 refine givesP_of (fn := Try.f44) Try.func44 rfl Try.ntmps44 rfl hZ scR_mono (fun on => ?_)
 repeat refine s_seqs ?_
 refine s_reg ?_
 refine step_box_agg rfl rfl (fun b2 => ?_)
 refine step_box_agg rfl rfl (fun b3 => ?_)
 refine step_alloc rfl zero32 (fun b4 => ?_)
 refine Vc.step_end (fun a w ok => ?_)
 first | (refine WPs.run ?_ a w ok; clear ok w a) | skip
 repeat refine s_seqs ?_
 refine s_reg ?_
 refine step_pure rfl (pure_fieldAddr rfl rfl rfl rfl rfl (by decide)) ?_
 refine step_pure rfl (pure_fieldAddr rfl rfl rfl rfl rfl (by decide)) ?_
 refine step_pure rfl (pure_load (i := 2) rfl rfl rfl rfl rfl rfl) ?_
 refine qa rfl rfl ?_
 refine Vc.step_end (fun a w ok => ?_)
 first | (refine WPs.run ?_ a w ok; clear ok w a) | skip
 repeat refine s_seqs ?_
 refine s_reg ?_
 refine step_pure rfl (pure_fieldAddr rfl rfl rfl rfl rfl (by decide)) ?_
 refine step_pure rfl (pure_fieldAddr rfl rfl rfl rfl rfl (by decide)) ?_
 refine step_pure rfl (pure_load (i := 2) rfl rfl rfl rfl rfl rfl) ?_
 refine qm rfl rfl ?_
 refine step_pure rfl (pure_gtr rfl rfl) ?_
 refine Vc.step_end (fun a w ok => ?_)
 first | (refine WPs.run ?_ a w ok; clear ok w a) | skip
 obtain ⟨q, hq⟩ : ∃ q : Int, q = (if s.Y > s.bot then s.H - 1 else s.bot) := ⟨_, rfl⟩
 repeat refine s_seqs ?_
 refine s_meet [(2, .pointer (some ⟨b2, 0, none⟩)), (3, .pointer (some ⟨b3, 0, none⟩)), (4, .pointer (some ⟨b4, 0, none⟩)), (5, .int .i64 q)] [⟨b4, scC zScr (.slice none 0 0) (.slice none 0 0), tSc⟩, ⟨b3, acC ac, tA⟩, ⟨b2, scC s (.slice a1 l1 c1) (.slice a2 l2 c2), tS⟩] ?_ (fun a w ok => WPs.run ?_ a w ok)
 ·repeat refine c_seq ?_
  refine c_cond rfl (fun h => ?_) (fun h => ?_)
  ·rw [if_pos (of_decide_eq_true h)] at hq
   subst hq
   repeat refine c_seq ?_
   refine c_region ?_
   refine step_pure rfl (pure_fieldAddr rfl rfl rfl rfl rfl (by decide)) ?_
   refine step_pure rfl (pure_fieldAddr rfl rfl rfl rfl rfl (by decide)) ?_
   refine step_pure rfl (pure_load (i := 2) rfl rfl rfl rfl rfl rfl) ?_
   first | refine step_pure rfl (pure_sub64 rfl rfl (by omega) (by omega)) ?_ | refine step_pure rfl (pure_sub rfl rfl) ?_
   refine qa rfl rfl ?_
   refine step_nil ?_
   exact less_of ⟨rfl, rfl, rfl, rfl, trivial⟩ rfl
  ·rw [if_neg (of_decide_eq_false h)] at hq
   subst hq
   exact c_skip (less_of ⟨rfl, rfl, rfl, rfl, trivial⟩ rfl)
 repeat refine s_seqs ?_
 refine s_dreg [3, 9, 17, 27, 33, 41, 51, 59, 67, 73, 81, 89, 100, 108] ([⟨b3, acC ac, tA⟩, ⟨b2, scC s (.slice a1 l1 c1) (.slice a2 l2 c2), tS⟩]) follows (by kernel_rfl) ?_
 refine d_pure1 rfl rfl rfl (pure_load_agg (i := 1) rfl rfl rfl rfl rfl (Nat.le_of_ble_eq_true rfl) rfl) (by first | exact SubMem.refl _ | exact (SubMem.refl _).cons | exact (SubMem.refl _).cons.cons | exact (SubMem.refl _).cons.cons.cons | exact (SubMem.refl _).cons.cons.cons.cons | exact (fun w hh => Has.sublist (by repeat (first | exact List.Sublist.refl _ | exact List.nil_sublist _ | apply List.Sublist.cons_cons | apply List.Sublist.cons)) hh)) ?_
 refine d_pure0 rfl rfl rfl (pure_fieldAddr rfl rfl rfl rfl rfl (by decide)) ?_
 refine d_pure0 rfl rfl rfl (pure_fieldAddr rfl rfl rfl rfl rfl (by decide)) ?_
 refine d_pure1 rfl rfl rfl (pure_load (i := 1) rfl rfl rfl rfl rfl rfl) (by first | exact SubMem.refl _ | exact (SubMem.refl _).cons | exact (SubMem.refl _).cons.cons | exact (SubMem.refl _).cons.cons.cons | exact (SubMem.refl _).cons.cons.cons.cons | exact (fun w hh => Has.sublist (by repeat (first | exact List.Sublist.refl _ | exact List.nil_sublist _ | apply List.Sublist.cons_cons | apply List.Sublist.cons)) hh)) ?_
 refine d_pure0 rfl rfl rfl (pure_fieldAddr rfl rfl rfl rfl rfl (by decide)) ?_
 refine d_pure0 rfl rfl rfl (pure_fieldAddr rfl rfl rfl rfl rfl (by decide)) ?_
 refine d_pure1 rfl rfl rfl (pure_load (i := 1) rfl rfl rfl rfl rfl rfl) (by first | exact SubMem.refl _ | exact (SubMem.refl _).cons | exact (SubMem.refl _).cons.cons | exact (SubMem.refl _).cons.cons.cons | exact (SubMem.refl _).cons.cons.cons.cons | exact (fun w hh => Has.sublist (by repeat (first | exact List.Sublist.refl _ | exact List.nil_sublist _ | apply List.Sublist.cons_cons | apply List.Sublist.cons)) hh)) ?_
 refine d_pure1 rfl rfl rfl (pure_load_agg (i := 0) (vs := acC ac) rfl rfl rfl rfl rfl (ac_le h8) (load_all (ac_len h8))) (by first | exact SubMem.refl _ | exact (SubMem.refl _).cons | exact (SubMem.refl _).cons.cons | exact (SubMem.refl _).cons.cons.cons | exact (SubMem.refl _).cons.cons.cons.cons | exact (fun w hh => Has.sublist (by repeat (first | exact List.Sublist.refl _ | exact List.nil_sublist _ | apply List.Sublist.cons_cons | apply List.Sublist.cons)) hh)) ?_
 refine d_gives rfl rfl rfl fun77 rfl (fun w _ _ => n_any ac w h8) (by first | exact SubMem.refl _ | exact (SubMem.refl _).cons | exact (SubMem.refl _).cons.cons | exact (SubMem.refl _).cons.cons.cons | exact (SubMem.refl _).cons.cons.cons.cons | exact (fun w hh => Has.sublist (by repeat (first | exact List.Sublist.refl _ | exact List.nil_sublist _ | apply List.Sublist.cons_cons | apply List.Sublist.cons)) hh)) ?_
 first | refine d_pure0 rfl rfl rfl (pure_add64 rfl rfl (by omega) (by omega)) ?_ | refine d_pure0 rfl rfl rfl (pure_add rfl rfl) ?_
 refine qd rfl rfl rfl rfl ?_
 refine d_pure0 rfl rfl rfl (pure_min rfl rfl) ?_
 refine d_givesP on.sc rfl rfl rfl fun76 rfl (fun w' Z' hh kp hZ hC => at_P s _ (s.X) (min (s.Y + tmN ac) q) w' hZ (hs.mono (Cz.now kp)) ok0) rfl ?_
 rintro u E5 g ⟨cs', rfl, hs'⟩
 replace on := on.next g
 try rw [doF_ok ok0] at hs'
 obtain ⟨hl5, ho5⟩ := scv_form hs'
 refine d_store_agg 0 rfl rfl rfl rfl rfl ho5 rfl hl5 rfl rfl (Nat.le_of_ble_eq_true rfl) (splice_all hl5) rfl rfl ?_
 refine d_end (fun a w ok => ?_)
 first | (refine WPs.run ?_ a w ok; clear ok w a) | skip
 rw [hq] at hs'
 exact s_ret fun a w ok => ends_givesP on (.inr rfl) ok (res_cell_agg (i := 0) Try.results44 rfl rfl rfl rfl rfl (by show 0 + 16 ≤ cs'.length; omega) (load_all hl5)) scR_mono ⟨cs', rfl, hs'⟩
set_option maxHeartbeats 1000000 in
theorem lines_S (s : Scr) (cs : List Value) (ac : Ac) (w : World) {Z : Nat → Prop} (hZ : ∀ j, w.heap.size ≤ j → Z j) (hs : ScV (At w) s cs) (ok0 : ScOk s) (h8 : Ac8 ac) : GivesP tb 53 [.agg cs.toArray, .agg (acC ac).toArray] w Z (ScR (tmLines ac s)) := by
 replace hs := scv_cz hs
 obtain ⟨a1, l1, c1, a2, l2, c2, rfl⟩ := scv_agg hs
 obtain ⟨k1, k2⟩ := ok_lens ok0
 have hN := tmN_in ac
 have hW := ok0.w
 have hH := ok0.h
 have hX := ok0.x
 have hY := ok0.y
 have hT := ok0.rows
 refine givesP_of (fn := Try.f53) Try.func53 rfl Try.ntmps53 rfl hZ scR_mono (fun on => ?_)
 repeat refine s_seqs ?_
 refine s_reg ?_
 refine step_box_agg rfl rfl (fun b2 => ?_)
 refine step_box_agg rfl rfl (fun b3 => ?_)
 refine step_alloc rfl zero32 (fun b4 => ?_)
 refine Vc.step_end (fun a w ok => ?_)
 first | (refine WPs.run ?_ a w ok; clear ok w a) | skip
 repeat refine s_seqs ?_
 refine s_dreg [1, 11, 19, 27, 36, 44] ([⟨b3, acC ac, tA⟩, ⟨b2, scC s (.slice a1 l1 c1) (.slice a2 l2 c2), tS⟩]) follows (by kernel_rfl) ?_
 refine d_pure0 rfl rfl rfl (pure_fieldAddr rfl rfl rfl rfl rfl (by decide)) ?_
 refine d_pure1 rfl rfl rfl (pure_load_agg (i := 1) rfl rfl rfl rfl rfl (Nat.le_of_ble_eq_true rfl) rfl) (by first | exact SubMem.refl _ | exact (SubMem.refl _).cons | exact (SubMem.refl _).cons.cons | exact (SubMem.refl _).cons.cons.cons | exact (SubMem.refl _).cons.cons.cons.cons | exact (fun w hh => Has.sublist (by repeat (first | exact List.Sublist.refl _ | exact List.nil_sublist _ | apply List.Sublist.cons_cons | apply List.Sublist.cons)) hh)) ?_
 refine d_pure1 rfl rfl rfl (pure_load_agg (i := 0) (vs := acC ac) rfl rfl rfl rfl rfl (ac_le h8) (load_all (ac_len h8))) (by first | exact SubMem.refl _ | exact (SubMem.refl _).cons | exact (SubMem.refl _).cons.cons | exact (SubMem.refl _).cons.cons.cons | exact (SubMem.refl _).cons.cons.cons.cons | exact (fun w hh => Has.sublist (by repeat (first | exact List.Sublist.refl _ | exact List.nil_sublist _ | apply List.Sublist.cons_cons | apply List.Sublist.cons)) hh)) ?_
 refine d_gives rfl rfl rfl fun77 rfl (fun w _ _ => n_any ac w h8) (by first | exact SubMem.refl _ | exact (SubMem.refl _).cons | exact (SubMem.refl _).cons.cons | exact (SubMem.refl _).cons.cons.cons | exact (SubMem.refl _).cons.cons.cons.cons | exact (fun w hh => Has.sublist (by repeat (first | exact List.Sublist.refl _ | exact List.nil_sublist _ | apply List.Sublist.cons_cons | apply List.Sublist.cons)) hh)) ?_
 refine d_givesP on.sc rfl rfl rfl fun80 rfl (fun w' Z' hh kp hZ hC => lines_P s _ (tmN ac) w' hZ (hs.mono (Cz.now kp)) k1 k2) rfl ?_
 rintro u E5 g ⟨cs', rfl, hs'⟩
 replace on := on.next g
 try rw [doF_ok ok0] at hs'
 obtain ⟨hl5, ho5⟩ := scv_form hs'
 refine d_store_agg 0 rfl rfl rfl rfl rfl ho5 rfl hl5 rfl rfl (Nat.le_of_ble_eq_true rfl) (splice_all hl5) rfl rfl ?_
 refine d_end (fun a w ok => ?_)
 first | (refine WPs.run ?_ a w ok; clear ok w a) | skip
 exact s_ret fun a w ok => ends_givesP on (.inr rfl) ok (res_cell_agg (i := 0) Try.results53 rfl rfl rfl rfl rfl (by show 0 + 16 ≤ cs'.length; omega) (load_all hl5)) scR_mono ⟨cs', rfl, hs'⟩
set_option maxHeartbeats 1000000 in
theorem noLines_S (s : Scr) (cs : List Value) (ac : Ac) (w : World) {Z : Nat → Prop} (hZ : ∀ j, w.heap.size ≤ j → Z j) (hs : ScV (At w) s cs) (ok0 : ScOk s) (h8 : Ac8 ac) : GivesP tb 54 [.agg cs.toArray, .agg (acC ac).toArray] w Z (ScR (tmNoLines ac s)) := by
 replace hs := scv_cz hs
 obtain ⟨a1, l1, c1, a2, l2, c2, rfl⟩ := scv_agg hs
 obtain ⟨k1, k2⟩ := ok_lens ok0
 have hN := tmN_in ac
 have hW := ok0.w
 have hH := ok0.h
 have hX := ok0.x
 have hY := ok0.y
 have hT := ok0.rows
 refine givesP_of (fn := Try.f54) Try.func54 rfl Try.ntmps54 rfl hZ scR_mono (fun on => ?_)
 repeat refine s_seqs ?_
 refine s_reg ?_
 refine step_box_agg rfl rfl (fun b2 => ?_)
 refine step_box_agg rfl rfl (fun b3 => ?_)
 refine step_alloc rfl zero32 (fun b4 => ?_)
 refine Vc.step_end (fun a w ok => ?_)
 first | (refine WPs.run ?_ a w ok; clear ok w a) | skip
 repeat refine s_seqs ?_
 refine s_dreg [1, 11, 19, 27, 33, 44, 52] ([⟨b3, acC ac, tA⟩, ⟨b2, scC s (.slice a1 l1 c1) (.slice a2 l2 c2), tS⟩]) follows (by kernel_rfl) ?_
 refine d_pure0 rfl rfl rfl (pure_fieldAddr rfl rfl rfl rfl rfl (by decide)) ?_
 refine d_pure1 rfl rfl rfl (pure_load_agg (i := 1) rfl rfl rfl rfl rfl (Nat.le_of_ble_eq_true rfl) rfl) (by first | exact SubMem.refl _ | exact (SubMem.refl _).cons | exact (SubMem.refl _).cons.cons | exact (SubMem.refl _).cons.cons.cons | exact (SubMem.refl _).cons.cons.cons.cons | exact (fun w hh => Has.sublist (by repeat (first | exact List.Sublist.refl _ | exact List.nil_sublist _ | apply List.Sublist.cons_cons | apply List.Sublist.cons)) hh)) ?_
 refine d_pure1 rfl rfl rfl (pure_load_agg (i := 0) (vs := acC ac) rfl rfl rfl rfl rfl (ac_le h8) (load_all (ac_len h8))) (by first | exact SubMem.refl _ | exact (SubMem.refl _).cons | exact (SubMem.refl _).cons.cons | exact (SubMem.refl _).cons.cons.cons | exact (SubMem.refl _).cons.cons.cons.cons | exact (fun w hh => Has.sublist (by repeat (first | exact List.Sublist.refl _ | exact List.nil_sublist _ | apply List.Sublist.cons_cons | apply List.Sublist.cons)) hh)) ?_
 refine d_gives rfl rfl rfl fun77 rfl (fun w _ _ => n_any ac w h8) (by first | exact SubMem.refl _ | exact (SubMem.refl _).cons | exact (SubMem.refl _).cons.cons | exact (SubMem.refl _).cons.cons.cons | exact (SubMem.refl _).cons.cons.cons.cons | exact (fun w hh => Has.sublist (by repeat (first | exact List.Sublist.refl _ | exact List.nil_sublist _ | apply List.Sublist.cons_cons | apply List.Sublist.cons)) hh)) ?_
 refine d_as0 rfl rfl rfl (pure_neg rfl) (show _ = Value.int .i64 (0 - tmN ac) from congrArg (Value.int .i64) (wrap_i64 (by omega) (by omega))) ?_
 refine d_givesP on.sc rfl rfl rfl fun80 rfl (fun w' Z' hh kp hZ hC => lines_P s _ (0 - tmN ac) w' hZ (hs.mono (Cz.now kp)) k1 k2) rfl ?_
 rintro u E5 g ⟨cs', rfl, hs'⟩
 replace on := on.next g
 try rw [doF_ok ok0] at hs'
 obtain ⟨hl5, ho5⟩ := scv_form hs'
 refine d_store_agg 0 rfl rfl rfl rfl rfl ho5 rfl hl5 rfl rfl (Nat.le_of_ble_eq_true rfl) (splice_all hl5) rfl rfl ?_
 refine d_end (fun a w ok => ?_)
 first | (refine WPs.run ?_ a w ok; clear ok w a) | skip
 exact s_ret fun a w ok => ends_givesP on (.inr rfl) ok (res_cell_agg (i := 0) Try.results54 rfl rfl rfl rfl rfl (by show 0 + 16 ≤ cs'.length; omega) (load_all hl5)) scR_mono ⟨cs', rfl, hs'⟩
set_option maxHeartbeats 1000000 in
theorem chars_S (s : Scr) (cs : List Value) (ac : Ac) (w : World) {Z : Nat → Prop} (hZ : ∀ j, w.heap.size ≤ j → Z j) (hs : ScV (At w) s cs) (ok0 : ScOk s) (h8 : Ac8 ac) : GivesP tb 55 [.agg cs.toArray, .agg (acC ac).toArray] w Z (ScR (tmChars ac s)) := by
 replace hs := scv_cz hs
 obtain ⟨a1, l1, c1, a2, l2, c2, rfl⟩ := scv_agg hs
 obtain ⟨k1, k2⟩ := ok_lens ok0
 have hN := tmN_in ac
 have hW := ok0.w
 have hH := ok0.h
 have hX := ok0.x
 have hY := ok0.y
 have hT := ok0.rows
 refine givesP_of (fn := Try.f55) Try.func55 rfl Try.ntmps55 rfl hZ scR_mono (fun on => ?_)
 repeat refine s_seqs ?_
 refine s_reg ?_
 refine step_box_agg rfl rfl (fun b2 => ?_)
 refine step_box_agg rfl rfl (fun b3 => ?_)
 refine step_alloc rfl zero32 (fun b4 => ?_)
 refine Vc.step_end (fun a w ok => ?_)
 first | (refine WPs.run ?_ a w ok; clear ok w a) | skip
 repeat refine s_seqs ?_
 refine s_dreg [1, 11, 19, 27, 36, 44] ([⟨b3, acC ac, tA⟩, ⟨b2, scC s (.slice a1 l1 c1) (.slice a2 l2 c2), tS⟩]) follows (by kernel_rfl) ?_
 refine d_pure0 rfl rfl rfl (pure_fieldAddr rfl rfl rfl rfl rfl (by decide)) ?_
 refine d_pure1 rfl rfl rfl (pure_load_agg (i := 1) rfl rfl rfl rfl rfl (Nat.le_of_ble_eq_true rfl) rfl) (by first | exact SubMem.refl _ | exact (SubMem.refl _).cons | exact (SubMem.refl _).cons.cons | exact (SubMem.refl _).cons.cons.cons | exact (SubMem.refl _).cons.cons.cons.cons | exact (fun w hh => Has.sublist (by repeat (first | exact List.Sublist.refl _ | exact List.nil_sublist _ | apply List.Sublist.cons_cons | apply List.Sublist.cons)) hh)) ?_
 refine d_pure1 rfl rfl rfl (pure_load_agg (i := 0) (vs := acC ac) rfl rfl rfl rfl rfl (ac_le h8) (load_all (ac_len h8))) (by first | exact SubMem.refl _ | exact (SubMem.refl _).cons | exact (SubMem.refl _).cons.cons | exact (SubMem.refl _).cons.cons.cons | exact (SubMem.refl _).cons.cons.cons.cons | exact (fun w hh => Has.sublist (by repeat (first | exact List.Sublist.refl _ | exact List.nil_sublist _ | apply List.Sublist.cons_cons | apply List.Sublist.cons)) hh)) ?_
 refine d_gives rfl rfl rfl fun77 rfl (fun w _ _ => n_any ac w h8) (by first | exact SubMem.refl _ | exact (SubMem.refl _).cons | exact (SubMem.refl _).cons.cons | exact (SubMem.refl _).cons.cons.cons | exact (SubMem.refl _).cons.cons.cons.cons | exact (fun w hh => Has.sublist (by repeat (first | exact List.Sublist.refl _ | exact List.nil_sublist _ | apply List.Sublist.cons_cons | apply List.Sublist.cons)) hh)) ?_
 refine d_givesP on.sc rfl rfl rfl fun81 rfl (fun w' Z' hh kp hZ hC => chars_P s _ (tmN ac) w' hZ (hs.mono (Cz.now kp)) k1 k2) rfl ?_
 rintro u E5 g ⟨cs', rfl, hs'⟩
 replace on := on.next g
 try rw [doF_ok ok0] at hs'
 obtain ⟨hl5, ho5⟩ := scv_form hs'
 refine d_store_agg 0 rfl rfl rfl rfl rfl ho5 rfl hl5 rfl rfl (Nat.le_of_ble_eq_true rfl) (splice_all hl5) rfl rfl ?_
 refine d_end (fun a w ok => ?_)
 first | (refine WPs.run ?_ a w ok; clear ok w a) | skip
 exact s_ret fun a w ok => ends_givesP on (.inr rfl) ok (res_cell_agg (i := 0) Try.results55 rfl rfl rfl rfl rfl (by show 0 + 16 ≤ cs'.length; omega) (load_all hl5)) scR_mono ⟨cs', rfl, hs'⟩
set_option maxHeartbeats 1000000 in
theorem noChars_S (s : Scr) (cs : List Value) (ac : Ac) (w : World) {Z : Nat → Prop} (hZ : ∀ j, w.heap.size ≤ j → Z j) (hs : ScV (At w) s cs) (ok0 : ScOk s) (h8 : Ac8 ac) : GivesP tb 56 [.agg cs.toArray, .agg (acC ac).toArray] w Z (ScR (tmNoChars ac s)) := by
 replace hs := scv_cz hs
 obtain ⟨a1, l1, c1, a2, l2, c2, rfl⟩ := scv_agg hs
 obtain ⟨k1, k2⟩ := ok_lens ok0
 have hN := tmN_in ac
 have hW := ok0.w
 have hH := ok0.h
 have hX := ok0.x
 have hY := ok0.y
 have hT := ok0.rows
 refine givesP_of (fn := Try.f56) Try.func56 rfl Try.ntmps56 rfl hZ scR_mono (fun on => ?_)
 repeat refine s_seqs ?_
 refine s_reg ?_
 refine step_box_agg rfl rfl (fun b2 => ?_)
 refine step_box_agg rfl rfl (fun b3 => ?_)
 refine step_alloc rfl zero32 (fun b4 => ?_)
 refine Vc.step_end (fun a w ok => ?_)
 first | (refine WPs.run ?_ a w ok; clear ok w a) | skip
 repeat refine s_seqs ?_
 refine s_dreg [1, 11, 19, 27, 33, 44, 52] ([⟨b3, acC ac, tA⟩, ⟨b2, scC s (.slice a1 l1 c1) (.slice a2 l2 c2), tS⟩]) follows (by kernel_rfl) ?_
 refine d_pure0 rfl rfl rfl (pure_fieldAddr rfl rfl rfl rfl rfl (by decide)) ?_
 refine d_pure1 rfl rfl rfl (pure_load_agg (i := 1) rfl rfl rfl rfl rfl (Nat.le_of_ble_eq_true rfl) rfl) (by first | exact SubMem.refl _ | exact (SubMem.refl _).cons | exact (SubMem.refl _).cons.cons | exact (SubMem.refl _).cons.cons.cons | exact (SubMem.refl _).cons.cons.cons.cons | exact (fun w hh => Has.sublist (by repeat (first | exact List.Sublist.refl _ | exact List.nil_sublist _ | apply List.Sublist.cons_cons | apply List.Sublist.cons)) hh)) ?_
 refine d_pure1 rfl rfl rfl (pure_load_agg (i := 0) (vs := acC ac) rfl rfl rfl rfl rfl (ac_le h8) (load_all (ac_len h8))) (by first | exact SubMem.refl _ | exact (SubMem.refl _).cons | exact (SubMem.refl _).cons.cons | exact (SubMem.refl _).cons.cons.cons | exact (SubMem.refl _).cons.cons.cons.cons | exact (fun w hh => Has.sublist (by repeat (first | exact List.Sublist.refl _ | exact List.nil_sublist _ | apply List.Sublist.cons_cons | apply List.Sublist.cons)) hh)) ?_
 refine d_gives rfl rfl rfl fun77 rfl (fun w _ _ => n_any ac w h8) (by first | exact SubMem.refl _ | exact (SubMem.refl _).cons | exact (SubMem.refl _).cons.cons | exact (SubMem.refl _).cons.cons.cons | exact (SubMem.refl _).cons.cons.cons.cons | exact (fun w hh => Has.sublist (by repeat (first | exact List.Sublist.refl _ | exact List.nil_sublist _ | apply List.Sublist.cons_cons | apply List.Sublist.cons)) hh)) ?_
 refine d_as0 rfl rfl rfl (pure_neg rfl) (show _ = Value.int .i64 (0 - tmN ac) from congrArg (Value.int .i64) (wrap_i64 (by omega) (by omega))) ?_
 refine d_givesP on.sc rfl rfl rfl fun81 rfl (fun w' Z' hh kp hZ hC => chars_P s _ (0 - tmN ac) w' hZ (hs.mono (Cz.now kp)) k1 k2) rfl ?_
 rintro u E5 g ⟨cs', rfl, hs'⟩
 replace on := on.next g
 try rw [doF_ok ok0] at hs'
 obtain ⟨hl5, ho5⟩ := scv_form hs'
 refine d_store_agg 0 rfl rfl rfl rfl rfl ho5 rfl hl5 rfl rfl (Nat.le_of_ble_eq_true rfl) (splice_all hl5) rfl rfl ?_
 refine d_end (fun a w ok => ?_)
 first | (refine WPs.run ?_ a w ok; clear ok w a) | skip
 exact s_ret fun a w ok => ends_givesP on (.inr rfl) ok (res_cell_agg (i := 0) Try.results56 rfl rfl rfl rfl rfl (by show 0 + 16 ≤ cs'.length; omega) (load_all hl5)) scR_mono ⟨cs', rfl, hs'⟩
set_option maxHeartbeats 1000000 in
theorem scroll_S (s : Scr) (cs : List Value) (ac : Ac) (w : World) {Z : Nat → Prop} (hZ : ∀ j, w.heap.size ≤ j → Z j) (hs : ScV (At w) s cs) (ok0 : ScOk s) (h8 : Ac8 ac) : GivesP tb 57 [.agg cs.toArray, .agg (acC ac).toArray] w Z (ScR (tmScroll ac s)) := by
 replace hs := scv_cz hs
 obtain ⟨a1, l1, c1, a2, l2, c2, rfl⟩ := scv_agg hs
 obtain ⟨k1, k2⟩ := ok_lens ok0
 have hN := tmN_in ac
 have hW := ok0.w
 have hH := ok0.h
 have hX := ok0.x
 have hY := ok0.y
 have hT := ok0.rows
 refine givesP_of (fn := Try.f57) Try.func57 rfl Try.ntmps57 rfl hZ scR_mono (fun on => ?_)
 repeat refine s_seqs ?_
 refine s_reg ?_
 refine step_box_agg rfl rfl (fun b2 => ?_)
 refine step_box_agg rfl rfl (fun b3 => ?_)
 refine step_alloc rfl zero32 (fun b4 => ?_)
 refine Vc.step_end (fun a w ok => ?_)
 first | (refine WPs.run ?_ a w ok; clear ok w a) | skip
 repeat refine s_seqs ?_
 refine s_dreg [1, 11, 19, 27, 36, 44] ([⟨b3, acC ac, tA⟩, ⟨b2, scC s (.slice a1 l1 c1) (.slice a2 l2 c2), tS⟩]) follows (by kernel_rfl) ?_
 refine d_pure0 rfl rfl rfl (pure_fieldAddr rfl rfl rfl rfl rfl (by decide)) ?_
 refine d_pure1 rfl rfl rfl (pure_load_agg (i := 1) rfl rfl rfl rfl rfl (Nat.le_of_ble_eq_true rfl) rfl) (by first | exact SubMem.refl _ | exact (SubMem.refl _).cons | exact (SubMem.refl _).cons.cons | exact (SubMem.refl _).cons.cons.cons | exact (SubMem.refl _).cons.cons.cons.cons | exact (fun w hh => Has.sublist (by repeat (first | exact List.Sublist.refl _ | exact List.nil_sublist _ | apply List.Sublist.cons_cons | apply List.Sublist.cons)) hh)) ?_
 refine d_pure1 rfl rfl rfl (pure_load_agg (i := 0) (vs := acC ac) rfl rfl rfl rfl rfl (ac_le h8) (load_all (ac_len h8))) (by first | exact SubMem.refl _ | exact (SubMem.refl _).cons | exact (SubMem.refl _).cons.cons | exact (SubMem.refl _).cons.cons.cons | exact (SubMem.refl _).cons.cons.cons.cons | exact (fun w hh => Has.sublist (by repeat (first | exact List.Sublist.refl _ | exact List.nil_sublist _ | apply List.Sublist.cons_cons | apply List.Sublist.cons)) hh)) ?_
 refine d_gives rfl rfl rfl fun77 rfl (fun w _ _ => n_any ac w h8) (by first | exact SubMem.refl _ | exact (SubMem.refl _).cons | exact (SubMem.refl _).cons.cons | exact (SubMem.refl _).cons.cons.cons | exact (SubMem.refl _).cons.cons.cons.cons | exact (fun w hh => Has.sublist (by repeat (first | exact List.Sublist.refl _ | exact List.nil_sublist _ | apply List.Sublist.cons_cons | apply List.Sublist.cons)) hh)) ?_
 refine d_givesP on.sc rfl rfl rfl fun82 rfl (fun w' Z' hh kp hZ hC => scroll_P s _ (tmN ac) w' hZ (hs.mono (Cz.now kp)) k1 k2) rfl ?_
 rintro u E5 g ⟨cs', rfl, hs'⟩
 replace on := on.next g
 try rw [doF_ok ok0] at hs'
 obtain ⟨hl5, ho5⟩ := scv_form hs'
 refine d_store_agg 0 rfl rfl rfl rfl rfl ho5 rfl hl5 rfl rfl (Nat.le_of_ble_eq_true rfl) (splice_all hl5) rfl rfl ?_
 refine d_end (fun a w ok => ?_)
 first | (refine WPs.run ?_ a w ok; clear ok w a) | skip
 exact s_ret fun a w ok => ends_givesP on (.inr rfl) ok (res_cell_agg (i := 0) Try.results57 rfl rfl rfl rfl rfl (by show 0 + 16 ≤ cs'.length; omega) (load_all hl5)) scR_mono ⟨cs', rfl, hs'⟩
set_option maxHeartbeats 1000000 in
theorem back_S (s : Scr) (cs : List Value) (ac : Ac) (w : World) {Z : Nat → Prop} (hZ : ∀ j, w.heap.size ≤ j → Z j) (hs : ScV (At w) s cs) (ok0 : ScOk s) (h8 : Ac8 ac) : GivesP tb 58 [.agg cs.toArray, .agg (acC ac).toArray] w Z (ScR (tmBack ac s)) := by
 replace hs := scv_cz hs
 obtain ⟨a1, l1, c1, a2, l2, c2, rfl⟩ := scv_agg hs
 obtain ⟨k1, k2⟩ := ok_lens ok0
 have hN := tmN_in ac
 have hW := ok0.w
 have hH := ok0.h
 have hX := ok0.x
 have hY := ok0.y
 have hT := ok0.rows
 refine givesP_of (fn := Try.f58) Try.func58 rfl Try.ntmps58 rfl hZ scR_mono (fun on => ?_)
 repeat refine s_seqs ?_
 refine s_reg ?_
 refine step_box_agg rfl rfl (fun b2 => ?_)
 refine step_box_agg rfl rfl (fun b3 => ?_)
 refine step_alloc rfl zero32 (fun b4 => ?_)
 refine Vc.step_end (fun a w ok => ?_)
 first | (refine WPs.run ?_ a w ok; clear ok w a) | skip
 repeat refine s_seqs ?_
 refine s_dreg [1, 11, 19, 27, 33, 44, 52] ([⟨b3, acC ac, tA⟩, ⟨b2, scC s (.slice a1 l1 c1) (.slice a2 l2 c2), tS⟩]) follows (by kernel_rfl) ?_
 refine d_pure0 rfl rfl rfl (pure_fieldAddr rfl rfl rfl rfl rfl (by decide)) ?_
 refine d_pure1 rfl rfl rfl (pure_load_agg (i := 1) rfl rfl rfl rfl rfl (Nat.le_of_ble_eq_true rfl) rfl) (by first | exact SubMem.refl _ | exact (SubMem.refl _).cons | exact (SubMem.refl _).cons.cons | exact (SubMem.refl _).cons.cons.cons | exact (SubMem.refl _).cons.cons.cons.cons | exact (fun w hh => Has.sublist (by repeat (first | exact List.Sublist.refl _ | exact List.nil_sublist _ | apply List.Sublist.cons_cons | apply List.Sublist.cons)) hh)) ?_
 refine d_pure1 rfl rfl rfl (pure_load_agg (i := 0) (vs := acC ac) rfl rfl rfl rfl rfl (ac_le h8) (load_all (ac_len h8))) (by first | exact SubMem.refl _ | exact (SubMem.refl _).cons | exact (SubMem.refl _).cons.cons | exact (SubMem.refl _).cons.cons.cons | exact (SubMem.refl _).cons.cons.cons.cons | exact (fun w hh => Has.sublist (by repeat (first | exact List.Sublist.refl _ | exact List.nil_sublist _ | apply List.Sublist.cons_cons | apply List.Sublist.cons)) hh)) ?_
 refine d_gives rfl rfl rfl fun77 rfl (fun w _ _ => n_any ac w h8) (by first | exact SubMem.refl _ | exact (SubMem.refl _).cons | exact (SubMem.refl _).cons.cons | exact (SubMem.refl _).cons.cons.cons | exact (SubMem.refl _).cons.cons.cons.cons | exact (fun w hh => Has.sublist (by repeat (first | exact List.Sublist.refl _ | exact List.nil_sublist _ | apply List.Sublist.cons_cons | apply List.Sublist.cons)) hh)) ?_
 refine d_as0 rfl rfl rfl (pure_neg rfl) (show _ = Value.int .i64 (0 - tmN ac) from congrArg (Value.int .i64) (wrap_i64 (by omega) (by omega))) ?_
 refine d_givesP on.sc rfl rfl rfl fun82 rfl (fun w' Z' hh kp hZ hC => scroll_P s _ (0 - tmN ac) w' hZ (hs.mono (Cz.now kp)) k1 k2) rfl ?_
 rintro u E5 g ⟨cs', rfl, hs'⟩
 replace on := on.next g
 try rw [doF_ok ok0] at hs'
 obtain ⟨hl5, ho5⟩ := scv_form hs'
 refine d_store_agg 0 rfl rfl rfl rfl rfl ho5 rfl hl5 rfl rfl (Nat.le_of_ble_eq_true rfl) (splice_all hl5) rfl rfl ?_
 refine d_end (fun a w ok => ?_)
 first | (refine WPs.run ?_ a w ok; clear ok w a) | skip
 exact s_ret fun a w ok => ends_givesP on (.inr rfl) ok (res_cell_agg (i := 0) Try.results58 rfl rfl rfl rfl rfl (by show 0 + 16 ≤ cs'.length; omega) (load_all hl5)) scR_mono ⟨cs', rfl, hs'⟩
end Go.Proofs.Ytadginombcjbeaa
