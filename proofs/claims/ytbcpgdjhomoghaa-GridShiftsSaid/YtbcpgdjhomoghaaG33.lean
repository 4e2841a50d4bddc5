/- The law GridShifts: walked. -/
import Derived.Test.YtbcpgdjhomoghaaG21
import Derived.Test.YtbcpgdjhomoghaaG31
import Derived.Test.YtbcpgdjhomoghaaG32
namespace Go.Proofs.Ytbcpgdjhomoghaa
open Go.RowKit Go.Vc
set_option linter.unusedVariables false
theorem doF_lens {f : Scr → Scr} {s : Scr} (hf : ScOk s → ScOk (f s)) : (doF f s).cells.length ≤ maxLen ∧ (doF f s).main.length ≤ maxLen := by
 unfold doF
 by_cases h : scOk s = true
 ·rw [if_pos h]; exact ok_lens (hf ((scOk_iff s).1 h))
 ·rw [if_neg h]; exact ⟨Nat.zero_le _, Nat.zero_le _⟩
theorem scroll_keeps {s : Scr} (n : Int) (h : ScOk s) : ScOk (scrollF s s.top s.bot n) := by
 have := h.rows; exact scrollF_ok h this.1 this.2.1 this.2.2
set_option maxHeartbeats 4000000 in
theorem gridshifts_any (s : Scr) (cs : List Value) (N U V : Int) (w : World) (hs : ScV (At w) s cs) (h1 : s.cells.length ≤ maxLen) (h2 : s.main.length ≤ maxLen) :
  Gives tb 5 [.agg cs.toArray, .int .i64 N, .int .i64 U, .int .i64 V] w (.bool true) := by
 have hmx : 5000 ≤ maxLen := by decide
 replace hs := scv_cz hs
 obtain ⟨hl0, ho0⟩ := scv_form hs
 refine gives_ofk (fn := Try.f5) Try.func5 rfl Try.ntmps5 rfl (fun on => ?_)
 repeat refine s_seqs ?_
 refine s_reg ?_
 refine step_box_agg rfl rfl (fun b4 => ?_)
 refine qa rfl rfl ?_
 refine Vc.step_end (fun a w ok => ?_)
 first | (refine WPs.run ?_ a w ok; clear ok w a) | skip
 repeat refine s_seqs ?_
 refine s_reg ?_
 refine step_gives rfl fun7 rfl (fun w _ _ => gawake_any w) ?_
 refine qa rfl rfl ?_
 refine Vc.step_end (fun a w ok => ?_)
 first | (refine WPs.run ?_ a w ok; clear ok w a) | skip
 have hfw := fun w' (kp : Keep w w' []) => few_any s _ w' (hs.mono (Cz.now kp))
 repeat refine s_seqs ?_
 refine s_reg ?_
 refine step_pure rfl (pure_load_agg (i := 0) (vs := cs) rfl rfl rfl rfl rfl (by show 0 + 16 ≤ cs.length; omega) (load16 hl0)) ?_
 refine step_gives rfl fun10 rfl (fun w' hh kp => hfw w' kp) ?_
 refine step_pure rfl (pure_not rfl) ?_
 refine Vc.step_end (fun a w ok => ?_)
 first | (refine WPs.run ?_ a w ok; clear ok w a) | skip
 repeat refine s_seqs ?_
 refine s_cond rfl (fun h => ?_) (fun h => ?_)
 ·repeat refine s_seqs ?_
  refine s_reg ?_
  refine qm rfl rfl ?_
  refine qa rfl rfl ?_
  refine Vc.step_end (fun a w ok => ?_)
  first | (refine WPs.run ?_ a w ok; clear ok w a) | skip
  exact s_ret fun a w ok => ends_k on (.inr rfl) ok (res_tmp Try.results5 rfl)
 clear h hfw
 refine s_skip fun a w ok => WPs.run ?_ a w ok
 clear ok w a
 repeat refine s_seqs ?_
 refine s_reg ?_
 refine step_pure rfl (pure_load_agg (i := 0) (vs := cs) rfl rfl rfl rfl rfl (by show 0 + 16 ≤ cs.length; omega) (load16 hl0)) ?_
 refine qm rfl rfl ?_
 refine qm rfl rfl ?_
 refine step_givesP on.sc rfl fun13 rfl (fun w' Z' hh kp hZ hC => resize_P s _ U V w' hZ (hs.mono (Cz.now kp)) h1 h2) ?_
 rintro u E1 g ⟨cs1, rfl, hs1⟩
 replace on := on.next g
 replace hs := hs.mono g.cz
 clear g
 obtain ⟨hl1, ho1⟩ := scv_form hs1
 refine qm rfl rfl ?_
 refine qx rfl rfl rfl ?_
 refine qx rfl rfl rfl ?_
 refine step_alloc rfl zero27 (fun b10 => ?_)
 refine step_store_agg 0 rfl rfl rfl ho1 rfl hl1 rfl rfl (Nat.le_of_ble_eq_true rfl) (splice_all hl1) ?_
 refine qa rfl rfl ?_
 refine Vc.step_end (fun a w ok => ?_)
 first | (refine WPs.run ?_ a w ok; clear ok w a) | skip
 repeat refine s_seqs ?_
 refine s_reg ?_
 refine step_pure rfl (pure_load_agg (i := 1) (vs := cs) rfl rfl rfl rfl rfl (by show 0 + 16 ≤ cs.length; omega) (load16 hl0)) ?_
 refine qm rfl rfl ?_
 refine qm rfl rfl ?_
 refine step_givesP on.sc rfl fun15 rfl (fun w' Z' hh kp hZ hC => rresize_P s _ U V w' hZ (hs.mono (Cz.now kp)) h1 h2) ?_
 rintro u E2 g ⟨cs2, rfl, hs2⟩
 replace on := on.next g
 replace hs := hs.mono g.cz
 replace hs1 := hs1.mono g.cz
 clear g
 obtain ⟨hl2, ho2⟩ := scv_form hs2
 refine qm rfl rfl ?_
 refine qx rfl rfl rfl ?_
 refine qx rfl rfl rfl ?_
 refine step_alloc rfl zero27 (fun b12 => ?_)
 refine step_store_agg 0 rfl rfl rfl ho2 rfl hl2 rfl rfl (Nat.le_of_ble_eq_true rfl) (splice_all hl2) ?_
 refine qa rfl rfl ?_
 refine Vc.step_end (fun a w ok => ?_)
 first | (refine WPs.run ?_ a w ok; clear ok w a) | skip
 have hq := doF_lens (s := s) (f := resizeF U V) (fun h => resizeF_ok h U V)
 have hsm := fun w' (kp : Keep E2.w0 w' E2.ws) => same_eq _ cs1 cs2 w' (hs1.mono (Cz.now kp)) (hs2.mono (Cz.now kp)) hq.1 hq.2
 generalize rsE s U V = er at *
 have heq : (er == er) = true := beq_self_eq_true er
 repeat refine s_seqs ?_
 refine s_dreg [3, 11, 19, 25, 33, 41, 49, 57, 65, 75, 81, 99, 105, 91, 117, 125, 129, 137] ([⟨b12, cs2, tSc⟩, ⟨b10, cs1, tSc⟩, ⟨b4, cs, tSc⟩]) follows (by kernel_rfl) ?_
 refine d_pure1 rfl rfl rfl (pure_load_agg (i := 1) (vs := cs1) rfl rfl rfl rfl rfl (by show 0 + 16 ≤ cs1.length; omega) (load16 hl1)) (by first | exact SubMem.refl _ | exact (SubMem.refl _).cons | exact (SubMem.refl _).cons.cons | exact (SubMem.refl _).cons.cons.cons | exact (SubMem.refl _).cons.cons.cons.cons | exact (fun w hh => Has.sublist (by repeat (first | exact List.Sublist.refl _ | exact List.nil_sublist _ | apply List.Sublist.cons_cons | apply List.Sublist.cons)) hh)) ?_
 refine d_pure1 rfl rfl rfl (pure_load_agg (i := 0) (vs := cs2) rfl rfl rfl rfl rfl (by show 0 + 16 ≤ cs2.length; omega) (load16 hl2)) (by first | exact SubMem.refl _ | exact (SubMem.refl _).cons | exact (SubMem.refl _).cons.cons | exact (SubMem.refl _).cons.cons.cons | exact (SubMem.refl _).cons.cons.cons.cons | exact (fun w hh => Has.sublist (by repeat (first | exact List.Sublist.refl _ | exact List.nil_sublist _ | apply List.Sublist.cons_cons | apply List.Sublist.cons)) hh)) ?_
 refine d_gives rfl rfl rfl fun14 rfl (fun w' hh kp => hsm w' kp) (by first | exact SubMem.refl _ | exact (SubMem.refl _).cons | exact (SubMem.refl _).cons.cons | exact (SubMem.refl _).cons.cons.cons | exact (SubMem.refl _).cons.cons.cons.cons | exact (fun w hh => Has.sublist (by repeat (first | exact List.Sublist.refl _ | exact List.nil_sublist _ | apply List.Sublist.cons_cons | apply List.Sublist.cons)) hh)) ?_
 clear hsm
 refine qd rfl rfl rfl rfl ?_
 first | refine qd rfl rfl rfl rfl ?_ | refine d_pass rfl rfl rfl (fun h => by cases h) rfl rfl rfl ?_
 first | refine qd rfl rfl rfl rfl ?_ | refine d_pass rfl rfl rfl (fun h => by cases h) rfl rfl rfl ?_
 first | refine d_as0 rfl rfl rfl (pure_eql rfl rfl) (congrArg Value.bool heq) ?_ | refine d_pass rfl rfl rfl (fun h => by cases h) rfl rfl rfl ?_
 first | refine d_pure0 rfl rfl rfl (pure_pick_yes rfl rfl) ?_ | refine d_pure0 rfl rfl rfl (pure_pick_no rfl rfl) ?_ | refine d_pure0 rfl rfl rfl (pure_pick_bool rfl rfl rfl) ?_
 refine qd rfl rfl rfl rfl ?_
 first | refine d_pure1 rfl rfl rfl (pure_load_agg (i := 2) (vs := cs) rfl rfl rfl rfl rfl (by show 0 + 16 ≤ cs.length; omega) (load16 hl0)) (by first | exact SubMem.refl _ | exact (SubMem.refl _).cons | exact (SubMem.refl _).cons.cons | exact (SubMem.refl _).cons.cons.cons | exact (SubMem.refl _).cons.cons.cons.cons | exact (fun w hh => Has.sublist (by repeat (first | exact List.Sublist.refl _ | exact List.nil_sublist _ | apply List.Sublist.cons_cons | apply List.Sublist.cons)) hh)) ?_ | refine d_pass rfl rfl rfl (fun _ => (by first | exact SubMem.refl _ | exact (SubMem.refl _).cons | exact (SubMem.refl _).cons.cons | exact (SubMem.refl _).cons.cons.cons | exact (SubMem.refl _).cons.cons.cons.cons | exact (fun w hh => Has.sublist (by repeat (first | exact List.Sublist.refl _ | exact List.nil_sublist _ | apply List.Sublist.cons_cons | apply List.Sublist.cons)) hh))) rfl rfl rfl ?_
 first | refine qd rfl rfl rfl rfl ?_ | refine d_pass rfl rfl rfl (fun h => by cases h) rfl rfl rfl ?_
 first | refine d_pure1 rfl rfl rfl (pure_load_agg (i := 2) (vs := cs) rfl rfl rfl rfl rfl (by show 0 + 16 ≤ cs.length; omega) (load16 hl0)) (by first | exact SubMem.refl _ | exact (SubMem.refl _).cons | exact (SubMem.refl _).cons.cons | exact (SubMem.refl _).cons.cons.cons | exact (SubMem.refl _).cons.cons.cons.cons | exact (fun w hh => Has.sublist (by repeat (first | exact List.Sublist.refl _ | exact List.nil_sublist _ | apply List.Sublist.cons_cons | apply List.Sublist.cons)) hh)) ?_ | refine d_pass rfl rfl rfl (fun _ => (by first | exact SubMem.refl _ | exact (SubMem.refl _).cons | exact (SubMem.refl _).cons.cons | exact (SubMem.refl _).cons.cons.cons | exact (SubMem.refl _).cons.cons.cons.cons | exact (fun w hh => Has.sublist (by repeat (first | exact List.Sublist.refl _ | exact List.nil_sublist _ | apply List.Sublist.cons_cons | apply List.Sublist.cons)) hh))) rfl rfl rfl ?_
 first | refine qd rfl rfl rfl rfl ?_ | refine d_pass rfl rfl rfl (fun h => by cases h) rfl rfl rfl ?_
 first | refine d_fork2 on.sc rfl rfl rfl fun12 rfl (fun E' g w' Z' hh kp hZ hC => scroll_P s _ N w' hZ ((hs.mono g.cz).mono (Cz.now kp)) h1 h2) scR_mono rfl rfl (fun _ => rfl) rfl (fun _ => rfl) (fun _ => rfl) fun16 rfl (fun _ => rfl) (fun E' g w' Z' hh kp hZ hC => rscroll_P s _ N w' hZ ((hs.mono g.cz).mono (Cz.now kp)) h1 h2) scR_mono rfl rfl (by kernel_rfl) (by decide) (by decide) ?_ | refine d_pass rfl rfl rfl (fun _ => (by first | exact SubMem.refl _ | exact (SubMem.refl _).cons | exact (SubMem.refl _).cons.cons | exact (SubMem.refl _).cons.cons.cons | exact (SubMem.refl _).cons.cons.cons.cons | exact (fun w hh => Has.sublist (by repeat (first | exact List.Sublist.refl _ | exact List.nil_sublist _ | apply List.Sublist.cons_cons | apply List.Sublist.cons)) hh))) rfl rfl rfl ?_
 rintro _ _ E3 g ⟨u3, rfl, hu3⟩ ⟨v3, rfl, hv3⟩
 replace on := on.next g
 replace hs := hs.mono g.cz
 clear g
 first | skip | refine d_pass rfl rfl rfl (fun h => by cases h) rfl rfl rfl ?_
 first | refine d_givesP on.sc rfl rfl rfl fun14 rfl (fun w' Z' hh kp hZ hC => givesP_of_gives (same_eq _ u3 v3 w' (hu3.mono (Cz.now kp)) (hv3.mono (Cz.now kp)) (doF_lens (f := fun s => scrollF s s.top s.bot N) (s := s) (scroll_keeps N)).1 (doF_lens (f := fun s => scrollF s s.top s.bot N) (s := s) (scroll_keeps N)).2)) rfl ?_ | refine d_pass rfl rfl rfl (fun h => by cases h) rfl rfl rfl ?_
 rintro _ E3' g rfl
 replace on := on.next g
 replace hs := hs.mono g.cz
 clear g hu3 hv3
 first | refine d_pure0 rfl rfl rfl (pure_pick_yes rfl rfl) ?_ | refine d_pure0 rfl rfl rfl (pure_pick_no rfl rfl) ?_ | refine d_pure0 rfl rfl rfl (pure_pick_bool rfl rfl rfl) ?_
 refine d_pure0 rfl rfl rfl (pure_assign rfl) ?_
 refine d_end (fun a w ok => ?_)
 first | (refine WPs.run ?_ a w ok; clear ok w a) | skip
 repeat refine s_seqs ?_
 refine s_dreg [3, 9, 27, 33, 19, 45, 53, 57, 67, 73, 91, 97, 83, 109, 117, 121, 129] ([⟨b12, cs2, tSc⟩, ⟨b10, cs1, tSc⟩, ⟨b4, cs, tSc⟩]) follows (by kernel_rfl) ?_
 refine d_pure1 rfl rfl rfl (pure_load_agg (i := 2) (vs := cs) rfl rfl rfl rfl rfl (by show 0 + 16 ≤ cs.length; omega) (load16 hl0)) (by first | exact SubMem.refl _ | exact (SubMem.refl _).cons | exact (SubMem.refl _).cons.cons | exact (SubMem.refl _).cons.cons.cons | exact (SubMem.refl _).cons.cons.cons.cons | exact (fun w hh => Has.sublist (by repeat (first | exact List.Sublist.refl _ | exact List.nil_sublist _ | apply List.Sublist.cons_cons | apply List.Sublist.cons)) hh)) ?_
 refine qd rfl rfl rfl rfl ?_
 refine d_pure1 rfl rfl rfl (pure_load_agg (i := 2) (vs := cs) rfl rfl rfl rfl rfl (by show 0 + 16 ≤ cs.length; omega) (load16 hl0)) (by first | exact SubMem.refl _ | exact (SubMem.refl _).cons | exact (SubMem.refl _).cons.cons | exact (SubMem.refl _).cons.cons.cons | exact (SubMem.refl _).cons.cons.cons.cons | exact (fun w hh => Has.sublist (by repeat (first | exact List.Sublist.refl _ | exact List.nil_sublist _ | apply List.Sublist.cons_cons | apply List.Sublist.cons)) hh)) ?_
 refine qd rfl rfl rfl rfl ?_
 refine d_fork2 on.sc rfl rfl rfl fun17 rfl (fun E' g w' Z' hh kp hZ hC => lines_P s _ N w' hZ ((hs.mono g.cz).mono (Cz.now kp)) h1 h2) scR_mono rfl rfl (fun _ => rfl) rfl (fun _ => rfl) (fun _ => rfl) fun18 rfl (fun _ => rfl) (fun E' g w' Z' hh kp hZ hC => rlines_P s _ N w' hZ ((hs.mono g.cz).mono (Cz.now kp)) h1 h2) scR_mono rfl rfl (by kernel_rfl) (by decide) (by decide) ?_
 rintro _ _ E4 g ⟨u4, rfl, hu4⟩ ⟨v4, rfl, hv4⟩
 replace on := on.next g
 replace hs := hs.mono g.cz
 clear g
 skip
 refine d_givesP on.sc rfl rfl rfl fun14 rfl (fun w' Z' hh kp hZ hC => givesP_of_gives (same_eq _ u4 v4 w' (hu4.mono (Cz.now kp)) (hv4.mono (Cz.now kp)) (doF_lens (f := linesF N) (s := s) (fun h => linesF_ok h N)).1 (doF_lens (f := linesF N) (s := s) (fun h => linesF_ok h N)).2)) rfl ?_
 rintro _ E4' g rfl
 replace on := on.next g
 replace hs := hs.mono g.cz
 clear g hu4 hv4
 refine qd rfl rfl rfl rfl ?_
 first | refine d_pure1 rfl rfl rfl (pure_load_agg (i := 2) (vs := cs) rfl rfl rfl rfl rfl (by show 0 + 16 ≤ cs.length; omega) (load16 hl0)) (by first | exact SubMem.refl _ | exact (SubMem.refl _).cons | exact (SubMem.refl _).cons.cons | exact (SubMem.refl _).cons.cons.cons | exact (SubMem.refl _).cons.cons.cons.cons | exact (fun w hh => Has.sublist (by repeat (first | exact List.Sublist.refl _ | exact List.nil_sublist _ | apply List.Sublist.cons_cons | apply List.Sublist.cons)) hh)) ?_ | refine d_pass rfl rfl rfl (fun _ => (by first | exact SubMem.refl _ | exact (SubMem.refl _).cons | exact (SubMem.refl _).cons.cons | exact (SubMem.refl _).cons.cons.cons | exact (SubMem.refl _).cons.cons.cons.cons | exact (fun w hh => Has.sublist (by repeat (first | exact List.Sublist.refl _ | exact List.nil_sublist _ | apply List.Sublist.cons_cons | apply List.Sublist.cons)) hh))) rfl rfl rfl ?_
 first | refine qd rfl rfl rfl rfl ?_ | refine d_pass rfl rfl rfl (fun h => by cases h) rfl rfl rfl ?_
 first | refine d_pure1 rfl rfl rfl (pure_load_agg (i := 2) (vs := cs) rfl rfl rfl rfl rfl (by show 0 + 16 ≤ cs.length; omega) (load16 hl0)) (by first | exact SubMem.refl _ | exact (SubMem.refl _).cons | exact (SubMem.refl _).cons.cons | exact (SubMem.refl _).cons.cons.cons | exact (SubMem.refl _).cons.cons.cons.cons | exact (fun w hh => Has.sublist (by repeat (first | exact List.Sublist.refl _ | exact List.nil_sublist _ | apply List.Sublist.cons_cons | apply List.Sublist.cons)) hh)) ?_ | refine d_pass rfl rfl rfl (fun _ => (by first | exact SubMem.refl _ | exact (SubMem.refl _).cons | exact (SubMem.refl _).cons.cons | exact (SubMem.refl _).cons.cons.cons | exact (SubMem.refl _).cons.cons.cons.cons | exact (fun w hh => Has.sublist (by repeat (first | exact List.Sublist.refl _ | exact List.nil_sublist _ | apply List.Sublist.cons_cons | apply List.Sublist.cons)) hh))) rfl rfl rfl ?_
 first | refine qd rfl rfl rfl rfl ?_ | refine d_pass rfl rfl rfl (fun h => by cases h) rfl rfl rfl ?_
 first | refine d_fork2 on.sc rfl rfl rfl fun19 rfl (fun E' g w' Z' hh kp hZ hC => chars_P s _ N w' hZ ((hs.mono g.cz).mono (Cz.now kp)) h1 h2) scR_mono rfl rfl (fun _ => rfl) rfl (fun _ => rfl) (fun _ => rfl) fun20 rfl (fun _ => rfl) (fun E' g w' Z' hh kp hZ hC => rchars_P s _ N w' hZ ((hs.mono g.cz).mono (Cz.now kp)) h1 h2) scR_mono rfl rfl (by kernel_rfl) (by decide) (by decide) ?_ | refine d_pass rfl rfl rfl (fun _ => (by first | exact SubMem.refl _ | exact (SubMem.refl _).cons | exact (SubMem.refl _).cons.cons | exact (SubMem.refl _).cons.cons.cons | exact (SubMem.refl _).cons.cons.cons.cons | exact (fun w hh => Has.sublist (by repeat (first | exact List.Sublist.refl _ | exact List.nil_sublist _ | apply List.Sublist.cons_cons | apply List.Sublist.cons)) hh))) rfl rfl rfl ?_
 rintro _ _ E5 g ⟨u5, rfl, hu5⟩ ⟨v5, rfl, hv5⟩
 replace on := on.next g
 replace hs := hs.mono g.cz
 clear g
 first | skip | refine d_pass rfl rfl rfl (fun h => by cases h) rfl rfl rfl ?_
 first | refine d_givesP on.sc rfl rfl rfl fun14 rfl (fun w' Z' hh kp hZ hC => givesP_of_gives (same_eq _ u5 v5 w' (hu5.mono (Cz.now kp)) (hv5.mono (Cz.now kp)) (doF_lens (f := charsF N) (s := s) (fun h => charsF_ok h N)).1 (doF_lens (f := charsF N) (s := s) (fun h => charsF_ok h N)).2)) rfl ?_ | refine d_pass rfl rfl rfl (fun h => by cases h) rfl rfl rfl ?_
 rintro _ E5' g rfl
 replace on := on.next g
 replace hs := hs.mono g.cz
 clear g hu5 hv5
 first | refine d_pure0 rfl rfl rfl (pure_pick_yes rfl rfl) ?_ | refine d_pure0 rfl rfl rfl (pure_pick_no rfl rfl) ?_ | refine d_pure0 rfl rfl rfl (pure_pick_bool rfl rfl rfl) ?_
 refine d_pure0 rfl rfl rfl (pure_assign rfl) ?_
 refine d_end (fun a w ok => ?_)
 first | (refine WPs.run ?_ a w ok; clear ok w a) | skip
 repeat refine s_seqs ?_
 refine s_dreg [1, 9, 17, 25, 33, 41, 49, 57, 67, 73, 81, 99, 105, 113, 91, 125, 133, 137, 145] ([⟨b12, cs2, tSc⟩, ⟨b10, cs1, tSc⟩, ⟨b4, cs, tSc⟩]) follows (by kernel_rfl) ?_
 refine qd rfl rfl rfl rfl ?_
 refine qd rfl rfl rfl rfl ?_
 first | refine qd rfl rfl rfl rfl ?_ | refine d_pass rfl rfl rfl (fun h => by cases h) rfl rfl rfl ?_
 first | refine d_pure0 rfl rfl rfl (pure_pick_yes rfl rfl) ?_ | refine d_pure0 rfl rfl rfl (pure_pick_no rfl rfl) ?_ | refine d_pure0 rfl rfl rfl (pure_pick_bool rfl rfl rfl) ?_
 refine qd rfl rfl rfl rfl ?_
 first | refine qd rfl rfl rfl rfl ?_ | refine d_pass rfl rfl rfl (fun h => by cases h) rfl rfl rfl ?_
 first | refine d_pure0 rfl rfl rfl (pure_pick_yes rfl rfl) ?_ | refine d_pure0 rfl rfl rfl (pure_pick_no rfl rfl) ?_ | refine d_pure0 rfl rfl rfl (pure_pick_bool rfl rfl rfl) ?_
 refine qd rfl rfl rfl rfl ?_
 first | refine d_pure1 rfl rfl rfl (pure_load_agg (i := 2) (vs := cs) rfl rfl rfl rfl rfl (by show 0 + 16 ≤ cs.length; omega) (load16 hl0)) (by first | exact SubMem.refl _ | exact (SubMem.refl _).cons | exact (SubMem.refl _).cons.cons | exact (SubMem.refl _).cons.cons.cons | exact (SubMem.refl _).cons.cons.cons.cons | exact (fun w hh => Has.sublist (by repeat (first | exact List.Sublist.refl _ | exact List.nil_sublist _ | apply List.Sublist.cons_cons | apply List.Sublist.cons)) hh)) ?_ | refine d_pass rfl rfl rfl (fun _ => (by first | exact SubMem.refl _ | exact (SubMem.refl _).cons | exact (SubMem.refl _).cons.cons | exact (SubMem.refl _).cons.cons.cons | exact (SubMem.refl _).cons.cons.cons.cons | exact (fun w hh => Has.sublist (by repeat (first | exact List.Sublist.refl _ | exact List.nil_sublist _ | apply List.Sublist.cons_cons | apply List.Sublist.cons)) hh))) rfl rfl rfl ?_
 first | refine qd rfl rfl rfl rfl ?_ | refine d_pass rfl rfl rfl (fun h => by cases h) rfl rfl rfl ?_
 first | refine qd rfl rfl rfl rfl ?_ | refine d_pass rfl rfl rfl (fun h => by cases h) rfl rfl rfl ?_
 first | refine d_pure1 rfl rfl rfl (pure_load_agg (i := 2) (vs := cs) rfl rfl rfl rfl rfl (by show 0 + 16 ≤ cs.length; omega) (load16 hl0)) (by first | exact SubMem.refl _ | exact (SubMem.refl _).cons | exact (SubMem.refl _).cons.cons | exact (SubMem.refl _).cons.cons.cons | exact (SubMem.refl _).cons.cons.cons.cons | exact (fun w hh => Has.sublist (by repeat (first | exact List.Sublist.refl _ | exact List.nil_sublist _ | apply List.Sublist.cons_cons | apply List.Sublist.cons)) hh)) ?_ | refine d_pass rfl rfl rfl (fun _ => (by first | exact SubMem.refl _ | exact (SubMem.refl _).cons | exact (SubMem.refl _).cons.cons | exact (SubMem.refl _).cons.cons.cons | exact (SubMem.refl _).cons.cons.cons.cons | exact (fun w hh => Has.sublist (by repeat (first | exact List.Sublist.refl _ | exact List.nil_sublist _ | apply List.Sublist.cons_cons | apply List.Sublist.cons)) hh))) rfl rfl rfl ?_
 first | refine qd rfl rfl rfl rfl ?_ | refine d_pass rfl rfl rfl (fun h => by cases h) rfl rfl rfl ?_
 first | refine qd rfl rfl rfl rfl ?_ | refine d_pass rfl rfl rfl (fun h => by cases h) rfl rfl rfl ?_
 first | refine d_fork2 on.sc rfl rfl rfl fun21 rfl (fun E' g w' Z' hh kp hZ hC => erase_P s _ U V w' hZ ((hs.mono g.cz).mono (Cz.now kp)) h1 h2) scR_mono rfl rfl (fun _ => rfl) rfl (fun _ => rfl) (fun _ => rfl) fun22 rfl (fun _ => rfl) (fun E' g w' Z' hh kp hZ hC => rerase_P s _ U V w' hZ ((hs.mono g.cz).mono (Cz.now kp)) h1 h2) scR_mono rfl rfl (by kernel_rfl) (by decide) (by decide) ?_ | refine d_pass rfl rfl rfl (fun _ => (by first | exact SubMem.refl _ | exact (SubMem.refl _).cons | exact (SubMem.refl _).cons.cons | exact (SubMem.refl _).cons.cons.cons | exact (SubMem.refl _).cons.cons.cons.cons | exact (fun w hh => Has.sublist (by repeat (first | exact List.Sublist.refl _ | exact List.nil_sublist _ | apply List.Sublist.cons_cons | apply List.Sublist.cons)) hh))) rfl rfl rfl ?_
 rintro _ _ E6 g ⟨u6, rfl, hu6⟩ ⟨v6, rfl, hv6⟩
 replace on := on.next g
 replace hs := hs.mono g.cz
 clear g
 first | skip | refine d_pass rfl rfl rfl (fun h => by cases h) rfl rfl rfl ?_
 first | refine d_givesP on.sc rfl rfl rfl fun14 rfl (fun w' Z' hh kp hZ hC => givesP_of_gives (same_eq _ u6 v6 w' (hu6.mono (Cz.now kp)) (hv6.mono (Cz.now kp)) (doF_lens (f := eraseF U V) (s := s) (fun h => eraseF_ok h U V)).1 (doF_lens (f := eraseF U V) (s := s) (fun h => eraseF_ok h U V)).2)) rfl ?_ | refine d_pass rfl rfl rfl (fun h => by cases h) rfl rfl rfl ?_
 rintro _ E6' g rfl
 replace on := on.next g
 replace hs := hs.mono g.cz
 clear g hu6 hv6
 first | refine d_pure0 rfl rfl rfl (pure_pick_yes rfl rfl) ?_ | refine d_pure0 rfl rfl rfl (pure_pick_no rfl rfl) ?_ | refine d_pure0 rfl rfl rfl (pure_pick_bool rfl rfl rfl) ?_
 refine d_pure0 rfl rfl rfl (pure_assign rfl) ?_
 refine d_end (fun a w ok => ?_)
 first | (refine WPs.run ?_ a w ok; clear ok w a) | skip
 exact s_ret fun a w ok => ends_k on (.inr rfl) ok (res_tmp Try.results5 rfl)
end Go.Proofs.Ytbcpgdjhomoghaa
