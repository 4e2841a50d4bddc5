/- The law TermSaves: walked. -/
import Derived.Test.YtadginombcjbeaaT20
namespace Go.Proofs.Ytadginombcjbeaa
open Go.RowKit Go.Vc
set_option linter.unusedVariables false
theorem do_save (s : Scr) : tmDo ⟨3, 55, false, 0, z8⟩ s = tmSave s := rfl
theorem do_back (s : Scr) : tmDo ⟨3, 56, false, 0, z8⟩ s = tmRestore s := rfl
theorem do_look (n : Int) (s : Scr) : tmDo ⟨4, 109, false, 0, [n, 0, 0, 0, 0, 0, 0, 0]⟩ s = tmLooksF ⟨4, 109, false, 0, [n, 0, 0, 0, 0, 0, 0, 0]⟩ s := rfl
theorem clamp_id {x n : Int} (h : 0 ≤ x ∧ x < n) : clampI x 0 (n - 1) = x := by unfold clampI; omega
/-- Where a cursor was, with its look. -/
def Kept (s t : Scr) : Prop := t.W = s.W ∧ t.H = s.H ∧ t.s0 = s.X ∧ t.s1 = s.Y ∧ t.s2 = s.A
theorem kept_restore {s t : Scr} (ok : ScOk s) (h : Kept s t) : tmRestore t = { t with X := s.X, Y := s.Y, A := s.A, wrap := false, s0 := s.X, s1 := s.Y, s2 := s.A } := by
 obtain ⟨h1, h2, h3, h4, h5⟩ := h
 unfold tmRestore moveF
 rw [h3, h4, h5, h1, h2, clamp_id ok.x, clamp_id ok.y]
set_option maxHeartbeats 4000000 in
theorem termsaves_any (s : Scr) (cs : List Value) (X Y : Int) (bs : List Int) (v : Value) (w : World) (hs : ScV (At w) s cs) (k1 : s.cells.length ≤ maxLen) (k2 : s.main.length ≤ maxLen)
  (hv : SlC (At w) 1 v bs.length (row bs)) (hle : bs.length ≤ maxLen) :
  Gives tb 6 [.agg cs.toArray, .int .i64 X, .int .i64 Y, v] w (.bool true) := by
 have hmx : maxLen ≤ 9223372036854775807 := by decide
 replace hs := scv_cz hs
 replace hv : SlC (Cz (fun _ => True) ⟨w, [], []⟩) 1 v bs.length (row bs) := hv.mono fun p x h => ⟨⟨h, by simp⟩, trivial⟩
 obtain ⟨base0, cap0, rfl, _⟩ := slc_sl hv
 obtain ⟨u1, u2, rfl, hq1, hq2⟩ := hs
 obtain ⟨a1, c1, rfl, _⟩ := slc_sl hq1
 obtain ⟨a2, c2, rfl, _⟩ := slc_sl hq2
 have hs : ScV (Cz (fun _ => True) ⟨w, [], []⟩) s (scC s (.slice a1 s.cells.length c1) (.slice a2 s.main.length c2)) := ⟨_, _, rfl, hq1, hq2⟩
 clear hq1 hq2
 refine gives_ofk (fn := Try.f6) Try.func6 rfl Try.ntmps6 rfl (fun on => ?_)
 repeat refine s_seqs ?_
 refine s_reg ?_
 refine step_box_agg rfl rfl (fun b4 => ?_)
 refine qa rfl rfl ?_
 refine Vc.step_end (fun a w ok => ?_)
 first | (refine WPs.run ?_ a w ok; clear ok w a) | skip
 repeat refine s_seqs ?_
 refine s_reg ?_
 refine step_gives rfl fun7 rfl (fun w _ _ => tawake_any w) ?_
 refine qa rfl rfl ?_
 refine Vc.step_end (fun a w ok => ?_)
 first | (refine WPs.run ?_ a w ok; clear ok w a) | skip
 repeat refine s_seqs ?_
 refine s_meet [(1, .int .i64 X), (2, .int .i64 Y), (3, .slice base0 bs.length cap0), (4, .pointer (some ⟨b4, 0, none⟩)), (8, .bool false), (9, .bool true),
  (33, .bool (((decide ((s.cells.length : Int) > 500) || decide ((s.main.length : Int) > 500)) || !scOk s) || decide ((bs.length : Int) > 20)))] [⟨b4, scC s (.slice a1 s.cells.length c1) (.slice a2 s.main.length c2), tSc⟩] ?_ (fun a w ok => WPs.run ?_ a w ok)
 ·have hck := fun w' (kp : Keep w w' []) => check_any s _ w' (hs.mono (Cz.now kp)) k1 k2
  have hce : ((ckE s) != 0) = !scOk s := by unfold ckE; cases scOk s <;> rfl
  generalize scOk s = so at *
  obtain ⟨d1, e1⟩ : ∃ d, decide ((s.cells.length : Int) > 500) = d := ⟨_, rfl⟩
  obtain ⟨d2, e2⟩ : ∃ d, decide ((s.main.length : Int) > 500) = d := ⟨_, rfl⟩
  obtain ⟨d3, e3⟩ : ∃ d, decide ((bs.length : Int) > 20) = d := ⟨_, rfl⟩
  rw [e1, e2, e3]
  repeat refine c_seq ?_
  refine c_region ?_
  refine step_pure rfl (pure_fieldAddr rfl rfl rfl rfl rfl (by decide)) ?_
  refine step_pure rfl (pure_load (i := 0) rfl rfl rfl rfl rfl rfl) ?_
  refine step_pure rfl (pure_len_slice rfl rfl rfl) ?_
  refine step_as rfl (pure_gtr rfl rfl) (congrArg Value.bool e1) ?_
  refine qm rfl rfl ?_
  refine step_split (t := 18) rfl (fun h18 => ?_) (fun h18 => ?_)
  ·refine qp rfl rfl rfl ?_
   refine qp rfl rfl rfl ?_
   refine qp rfl rfl rfl ?_
   refine qp rfl rfl rfl ?_
   refine step_pure rfl (pure_pick_yes rfl rfl) ?_
   refine qm rfl rfl ?_
   refine qp rfl rfl rfl ?_
   refine qp rfl rfl rfl ?_
   refine qp rfl rfl rfl ?_
   refine step_pure rfl (pure_pick_yes rfl rfl) ?_
   refine qm rfl rfl ?_
   refine qp rfl rfl rfl ?_
   refine qp rfl rfl rfl ?_
   refine qp rfl rfl rfl ?_
   refine step_pure rfl (pure_pick_yes rfl rfl) ?_
   refine step_nil ?_
   refine less_of ⟨rfl, rfl, rfl, rfl, rfl, rfl, ?_, trivial⟩ rfl
   refine congrArg some (congrArg Value.bool ?_)
   clear hck hce e1 e2 e3
   simp_all
  ·refine step_pure rfl (pure_fieldAddr rfl rfl rfl rfl rfl (by decide)) ?_
   refine step_pure rfl (pure_load (i := 0) rfl rfl rfl rfl rfl rfl) ?_
   refine step_pure rfl (pure_len_slice rfl rfl rfl) ?_
   refine step_as rfl (pure_gtr rfl rfl) (congrArg Value.bool e2) ?_
   refine step_pure rfl (pure_pick_no rfl rfl) ?_
   refine qm rfl rfl ?_
   refine step_split (t := 24) rfl (fun h24 => ?_) (fun h24 => ?_)
   ·refine qp rfl rfl rfl ?_
    refine qp rfl rfl rfl ?_
    refine qp rfl rfl rfl ?_
    refine step_pure rfl (pure_pick_yes rfl rfl) ?_
    refine qm rfl rfl ?_
    refine qp rfl rfl rfl ?_
    refine qp rfl rfl rfl ?_
    refine qp rfl rfl rfl ?_
    refine step_pure rfl (pure_pick_yes rfl rfl) ?_
    refine step_nil ?_
    refine less_of ⟨rfl, rfl, rfl, rfl, rfl, rfl, ?_, trivial⟩ rfl
    refine congrArg some (congrArg Value.bool ?_)
    clear hck hce e1 e2 e3
    simp_all
   ·refine step_pure rfl (pure_load_agg (i := 0) rfl rfl rfl rfl rfl (Nat.le_of_ble_eq_true rfl) rfl) ?_
    refine step_gives rfl fun8 rfl (fun w' hh kp => hck w' kp) ?_
    refine step_as rfl (pure_neq rfl rfl) (congrArg Value.bool hce) ?_
    refine step_pure rfl (pure_pick_no rfl rfl) ?_
    refine qm rfl rfl ?_
    refine step_split (t := 29) rfl (fun h29 => ?_) (fun h29 => ?_)
    ·refine qp rfl rfl rfl ?_
     refine qp rfl rfl rfl ?_
     refine qp rfl rfl rfl ?_
     refine step_pure rfl (pure_pick_yes rfl rfl) ?_
     refine step_nil ?_
     refine less_of ⟨rfl, rfl, rfl, rfl, rfl, rfl, ?_, trivial⟩ rfl
     refine congrArg some (congrArg Value.bool ?_)
     clear hck hce e1 e2 e3
     simp_all
    ·refine qm rfl rfl ?_
     refine step_pure rfl (pure_len_slice rfl rfl rfl) ?_
     refine step_as rfl (pure_gtr rfl rfl) (congrArg Value.bool e3) ?_
     refine step_pure rfl (pure_pick_no rfl rfl) ?_
     refine step_nil ?_
     refine less_of ⟨rfl, rfl, rfl, rfl, rfl, rfl, ?_, trivial⟩ rfl
     refine congrArg some (congrArg Value.bool ?_)
     clear hck hce e1 e2 e3
     simp_all
 repeat refine s_seqs ?_
 refine s_cond rfl (fun h => ?_) (fun h => ?_)
 ·repeat refine s_seqs ?_
  refine s_reg ?_
  refine qm rfl rfl ?_
  refine qa rfl rfl ?_
  refine Vc.step_end (fun a w ok => ?_)
  first | (refine WPs.run ?_ a w ok; clear ok w a) | skip
  exact s_ret fun a w ok => ends_k on (.inr rfl) ok (res_tmp Try.results6 rfl)
 have ok0 : ScOk s := by
  simp only [Bool.or_eq_false_iff, Bool.not_eq_false'] at h
  exact (scOk_iff s).1 h.1.2
 clear h
 refine s_skip fun a w ok => WPs.run ?_ a w ok
 clear ok w a
 have oks := (still_save ok0).ok
 obtain ⟨k3, k4⟩ := ok_lens oks
 have okm := moveF_ok oks X Y
 have hkm : Kept s (moveF X Y (tmSave s)) := ⟨rfl, rfl, rfl, rfl, rfl⟩
 repeat refine s_seqs ?_
 refine s_reg ?_
 refine step_pure rfl (pure_load_agg (i := 0) rfl rfl rfl rfl rfl (Nat.le_of_ble_eq_true rfl) rfl) ?_
 refine step_pure rfl (pure_build_struct (pl := [(0, 1), (1, 1), (2, 1), (3, 1), (4, 8)]) rfl zero26 rfl rfl rfl rfl) ?_
 refine step_givesP on.sc rfl fun13 rfl (fun w' Z' hh kp hZ hC => do_P s _ ⟨3, 55, false, 0, z8⟩ w' hZ (hs.mono (Cz.now kp)) k1 k2 rfl) ?_
 rw [doF_ok ok0, do_save]
 rintro u E1 g ⟨cs1, rfl, hs1⟩
 replace on := on.next g
 replace hv := hv.mono g.cz
 clear g hs
 obtain ⟨hl1, ho1⟩ := scv_form hs1
 refine step_alloc rfl zero32 (fun b10 => ?_)
 refine step_store_agg 0 rfl rfl rfl ho1 rfl hl1 rfl rfl (Nat.le_of_ble_eq_true rfl) (splice_all hl1) ?_
 refine Vc.step_end (fun a w ok => ?_)
 first | (refine WPs.run ?_ a w ok; clear ok w a) | skip
 repeat refine s_seqs ?_
 refine s_reg ?_
 refine step_pure rfl (pure_load_agg (i := 0) (vs := cs1) rfl rfl rfl rfl rfl (by show 0 + 16 ≤ cs1.length; omega) (load_all hl1)) ?_
 refine qm rfl rfl ?_
 refine qm rfl rfl ?_
 refine step_givesP on.sc rfl fun14 rfl (fun w' Z' hh kp hZ hC => move_P (tmSave s) cs1 X Y w' hZ (hs1.mono (Cz.now kp)) k3 k4) ?_
 rw [doF_ok oks]
 rintro u E2 g ⟨cs2, rfl, hs2⟩
 replace on := on.next g
 replace hv := hv.mono g.cz
 clear g hs1
 obtain ⟨hl2, ho2⟩ := scv_form hs2
 refine step_store_agg 0 rfl rfl rfl ho2 rfl hl2 rfl rfl (by show 0 + 16 ≤ cs1.length; omega) (splice_all (by rw [hl2]; exact hl1.symm)) ?_
 refine Vc.step_end (fun a w ok => ?_)
 first | (refine WPs.run ?_ a w ok; clear ok w a) | skip
 repeat refine s_seqs ?_
 refine s_reg ?_
 refine qa rfl rfl ?_
 refine Vc.step_end (fun a w ok => ?_)
 first | (refine WPs.run ?_ a w ok; clear ok w a) | skip
 generalize moveF X Y (tmSave s) = sM at *
 repeat refine s_seqs ?_
 refine s_block ?_
 repeat refine s_seqs ?_
 refine s_loopP (α := Nat × Scr × List Value) (fun y => [(3, .slice base0 bs.length cap0), (4, .pointer (some ⟨b4, 0, none⟩)), (9, .bool true), (10, .pointer (some ⟨b10, 0, none⟩)), (11, .int .i64 y.1)])
  (fun y => [⟨b10, y.2.2, tSc⟩, ⟨b4, scC s (.slice a1 s.cells.length c1) (.slice a2 s.main.length c2), tSc⟩])
  (fun y E => y.1 ≤ bs.length ∧ ScV (Cz (fun _ => True) E) y.2.1 y.2.2 ∧ ScOk y.2.1 ∧ Kept s y.2.1) (fun y => bs.length - y.1) (0, sM, cs2) ⟨Nat.zero_le _, hs2, okm, hkm⟩ (less_sub ⟨rfl, rfl, rfl, rfl, rfl, trivial⟩ (by repeat (first | exact List.Sublist.refl _ | exact List.nil_sublist _ | apply List.Sublist.cons_cons | apply List.Sublist.cons))) ?_
 clear hs2 okm hkm hl2 ho2 hl1 ho1 cs1 cs2 oks k3 k4
 rintro ⟨i, s1, cs1⟩ E3 ⟨hi, hs1, ok1, hk1⟩ g
 replace on := on.next g
 replace hv := hv.mono g.cz
 clear g
 dsimp only at hi hs1 ok1 hk1 ⊢
 obtain ⟨hl1, ho1⟩ := scv_form hs1
 obtain ⟨k3, k4⟩ := ok_lens ok1
 repeat refine s_seqs ?_
 refine s_reg ?_
 refine qm rfl rfl ?_
 refine qm rfl rfl ?_
 refine step_pure rfl (pure_len_slice rfl rfl rfl) ?_
 refine step_pure rfl (pure_lss rfl rfl) ?_
 refine Vc.step_end (fun a w ok => ?_)
 first | (refine WPs.run ?_ a w ok; clear ok w a) | skip
 repeat refine s_seqs ?_
 refine s_cond rfl (fun h1 => ?_) (fun h1 => ?_)
 ·have hlt : i < bs.length := by have := of_decide_eq_true h1; omega
  clear h1
  refine s_skip fun a w ok => WPs.run ?_ a w ok
  clear ok w a
  obtain ⟨p, cap', e1, q1⟩ := slc_at1 hv hlt
  cases e1
  generalize bs[i] = b at *
  repeat refine s_seqs ?_
  refine s_block ?_
  repeat refine s_seqs ?_
  refine s_reg ?_
  refine step_pure rfl (pure_build_struct (pl := [(0, 1), (1, 1), (2, 1), (3, 1), (4, 8)]) rfl zero26 rfl rfl rfl rfl) ?_
  refine step_alloc rfl zero26 (fun b12 => ?_)
  first | refine step_store_agg 0 rfl rfl rfl (by decide) rfl rfl rfl rfl (by decide) rfl ?_ | refine step_store_agg 1 rfl rfl rfl (by decide) rfl rfl rfl rfl (by decide) rfl ?_ | refine step_store_agg 2 rfl rfl rfl (by decide) rfl rfl rfl rfl (by decide) rfl ?_ | refine step_store_agg 3 rfl rfl rfl (by decide) rfl rfl rfl rfl (by decide) rfl ?_ | refine step_store_agg 4 rfl rfl rfl (by decide) rfl rfl rfl rfl (by decide) rfl ?_ | refine step_store_agg 5 rfl rfl rfl (by decide) rfl rfl rfl rfl (by decide) rfl ?_ | refine step_store_agg 0 rfl rfl rfl (of_one rfl) rfl rfl rfl rfl (Nat.le_of_ble_eq_true rfl) rfl ?_ | refine step_store_agg 1 rfl rfl rfl (of_one rfl) rfl rfl rfl rfl (Nat.le_of_ble_eq_true rfl) rfl ?_ | refine step_store_agg 2 rfl rfl rfl (of_one rfl) rfl rfl rfl rfl (Nat.le_of_ble_eq_true rfl) rfl ?_ | refine step_store_agg 3 rfl rfl rfl (of_one rfl) rfl rfl rfl rfl (Nat.le_of_ble_eq_true rfl) rfl ?_ | refine step_store_agg 4 rfl rfl rfl (of_one rfl) rfl rfl rfl rfl (Nat.le_of_ble_eq_true rfl) rfl ?_ | refine step_store_agg 5 rfl rfl rfl (of_one rfl) rfl rfl rfl rfl (Nat.le_of_ble_eq_true rfl) rfl ?_
  refine Vc.step_end (fun a w ok => ?_)
  first | (refine WPs.run ?_ a w ok; clear ok w a) | skip
  repeat refine s_seqs ?_
  refine s_reg ?_
  refine qm rfl rfl ?_
  refine qm rfl rfl ?_
  refine step_pure rfl (pure_indexAddr_at rfl rfl rfl rfl rfl (by omega) (by omega)) ?_
  refine step_pure rfl (pure_cel rfl rfl rfl (show (Cel E3) _ _ from by rw [Int.toNat_natCast]; exact q1.1)) ?_
  refine step_pure rfl (pure_conv rfl rfl rfl rfl) ?_
  refine step_pure rfl (pure_fieldAddr rfl rfl rfl rfl rfl (by decide)) ?_
  first | refine step_pure rfl (pure_ix rfl rfl rfl rfl rfl (by decide) (by decide) rfl) ?_ | refine step_pure rfl (pure_ix rfl rfl rfl rfl rfl (by omega) (by omega) rfl) ?_
  refine step_store 0 rfl rfl rfl rfl rfl rfl rfl rfl (Nat.le_of_ble_eq_true rfl) (show _ = acC ⟨4, 109, false, 0, [IntKind.i64.wrap b, 0, 0, 0, 0, 0, 0, 0]⟩ from rfl) ?_
  refine Vc.step_end (fun a w ok => ?_)
  first | (refine WPs.run ?_ a w ok; clear ok w a) | skip
  repeat refine s_seqs ?_
  refine s_reg ?_
  refine step_pure rfl (pure_load_agg (i := 1) (vs := cs1) rfl rfl rfl rfl rfl (by show 0 + 16 ≤ cs1.length; omega) (load_all hl1)) ?_
  refine step_pure rfl (pure_load_agg (i := 0) rfl rfl rfl rfl rfl (Nat.le_of_ble_eq_true rfl) rfl) ?_
  refine step_givesP on.sc rfl fun13 rfl (fun w' Z' hh kp hZ hC => do_P s1 cs1 ⟨4, 109, false, 0, [IntKind.i64.wrap b, 0, 0, 0, 0, 0, 0, 0]⟩ w' hZ (hs1.mono (Cz.now kp)) k3 k4 rfl) ?_
  rw [doF_ok ok1, do_look]
  rintro u E4 g ⟨cs5, rfl, hs5⟩
  replace on := on.next g
  obtain ⟨hl5, ho5⟩ := scv_form hs5
  refine step_store_agg 1 rfl rfl rfl ho5 rfl hl5 rfl rfl (by show 0 + 16 ≤ cs1.length; omega) (splice_all (by rw [hl5]; exact hl1.symm)) ?_
  refine Vc.step_end (fun a w ok => ?_)
  first | (refine WPs.run ?_ a w ok; clear ok w a) | skip
  repeat refine s_seqs ?_
  refine s_reg ?_
  refine qm rfl rfl ?_
  first | refine step_pure rfl (pure_add64 rfl rfl (by omega) (by omega)) ?_ | refine step_pure rfl (pure_add rfl rfl) ?_
  refine qa rfl rfl ?_
  refine Vc.step_end (fun a w ok => ?_)
  refine ⟨(i + 1, _, cs5), E4, ⟨hlt, hs5, (still_looks ok1 _).ok, hk1⟩, by show bs.length - (i + 1) < bs.length - i; omega, g, Less.ok ?_ ok⟩
  exact less_sub ⟨rfl, rfl, rfl, rfl, rfl, trivial⟩ (by repeat (first | exact List.Sublist.refl _ | exact List.nil_sublist _ | apply List.Sublist.cons_cons | apply List.Sublist.cons))
 ·clear h1
  refine s_exit fun a w ok => WPs.run ?_ a w ok
  clear ok w a
  have hfin := kept_restore ok0 hk1
  repeat refine s_seqs ?_
  refine s_reg ?_
  refine step_pure rfl (pure_load_agg (i := 0) (vs := cs1) rfl rfl rfl rfl rfl (by show 0 + 16 ≤ cs1.length; omega) (load_all hl1)) ?_
  refine step_pure rfl (pure_build_struct (pl := [(0, 1), (1, 1), (2, 1), (3, 1), (4, 8)]) rfl zero26 rfl rfl rfl rfl) ?_
  refine step_givesP on.sc rfl fun13 rfl (fun w' Z' hh kp hZ hC => do_P s1 cs1 ⟨3, 56, false, 0, z8⟩ w' hZ (hs1.mono (Cz.now kp)) k3 k4 rfl) ?_
  rw [doF_ok ok1, do_back, hfin]
  rintro u E4 g ⟨cs6, rfl, hs6⟩
  replace on := on.next g
  obtain ⟨hl6, ho6⟩ := scv_form hs6
  refine step_store_agg 0 rfl rfl rfl ho6 rfl hl6 rfl rfl (by show 0 + 16 ≤ cs1.length; omega) (splice_all (by rw [hl6]; exact hl1.symm)) ?_
  refine Vc.step_end (fun a w ok => ?_)
  first | (refine WPs.run ?_ a w ok; clear ok w a) | skip
  clear hl6 ho6
  obtain ⟨a3, l3, c3, a4, l4, c4, rfl⟩ := scv_agg hs6
  repeat refine s_seqs ?_
  refine s_reg ?_
  refine qm rfl rfl ?_
  refine qm rfl rfl ?_
  first | refine step_pure rfl (pure_fieldAddr rfl rfl rfl rfl rfl (by decide)) ?_ | refine qp rfl rfl rfl ?_
  first | refine step_pure rfl (pure_load (i := 0) rfl rfl rfl rfl rfl rfl) ?_ | refine qp rfl rfl rfl ?_
  first | refine step_pure rfl (pure_fieldAddr rfl rfl rfl rfl rfl (by decide)) ?_ | refine qp rfl rfl rfl ?_
  first | refine step_pure rfl (pure_load (i := 1) rfl rfl rfl rfl rfl rfl) ?_ | refine qp rfl rfl rfl ?_
  first | refine step_as rfl (pure_eql rfl rfl) (show _ = Value.bool true from congrArg Value.bool (beq_self_eq_true _)) ?_ | refine qp rfl rfl rfl ?_
  first | refine step_pure rfl (pure_pick_yes rfl rfl) ?_ | refine step_pure rfl (pure_pick_no rfl rfl) ?_ | refine step_pure rfl (pure_pick_bool rfl rfl rfl) ?_
  refine qm rfl rfl ?_
  first | refine step_pure rfl (pure_fieldAddr rfl rfl rfl rfl rfl (by decide)) ?_ | refine qp rfl rfl rfl ?_
  first | refine step_pure rfl (pure_load (i := 0) rfl rfl rfl rfl rfl rfl) ?_ | refine qp rfl rfl rfl ?_
  first | refine step_pure rfl (pure_fieldAddr rfl rfl rfl rfl rfl (by decide)) ?_ | refine qp rfl rfl rfl ?_
  first | refine step_pure rfl (pure_load (i := 1) rfl rfl rfl rfl rfl rfl) ?_ | refine qp rfl rfl rfl ?_
  first | refine step_as rfl (pure_eql rfl rfl) (show _ = Value.bool true from congrArg Value.bool (beq_self_eq_true _)) ?_ | refine qp rfl rfl rfl ?_
  first | refine step_pure rfl (pure_pick_yes rfl rfl) ?_ | refine step_pure rfl (pure_pick_no rfl rfl) ?_ | refine step_pure rfl (pure_pick_bool rfl rfl rfl) ?_
  refine qm rfl rfl ?_
  first | refine step_pure rfl (pure_fieldAddr rfl rfl rfl rfl rfl (by decide)) ?_ | refine qp rfl rfl rfl ?_
  first | refine step_pure rfl (pure_load (i := 0) rfl rfl rfl rfl rfl rfl) ?_ | refine qp rfl rfl rfl ?_
  first | refine step_pure rfl (pure_fieldAddr rfl rfl rfl rfl rfl (by decide)) ?_ | refine qp rfl rfl rfl ?_
  first | refine step_pure rfl (pure_load (i := 1) rfl rfl rfl rfl rfl rfl) ?_ | refine qp rfl rfl rfl ?_
  first | refine step_as rfl (pure_eql rfl rfl) (show _ = Value.bool true from congrArg Value.bool (beq_self_eq_true _)) ?_ | refine qp rfl rfl rfl ?_
  first | refine step_pure rfl (pure_pick_yes rfl rfl) ?_ | refine step_pure rfl (pure_pick_no rfl rfl) ?_ | refine step_pure rfl (pure_pick_bool rfl rfl rfl) ?_
  refine qm rfl rfl ?_
  first | refine step_pure rfl (pure_fieldAddr rfl rfl rfl rfl rfl (by decide)) ?_ | refine qp rfl rfl rfl ?_
  first | refine step_pure rfl (pure_load (i := 0) rfl rfl rfl rfl rfl rfl) ?_ | refine qp rfl rfl rfl ?_
  first | refine step_pure rfl (pure_not rfl) ?_ | refine qp rfl rfl rfl ?_
  first | refine step_pure rfl (pure_pick_yes rfl rfl) ?_ | refine step_pure rfl (pure_pick_no rfl rfl) ?_ | refine step_pure rfl (pure_pick_bool rfl rfl rfl) ?_
  refine qm rfl rfl ?_
  first | refine step_pure rfl (pure_fieldAddr rfl rfl rfl rfl rfl (by decide)) ?_ | refine qp rfl rfl rfl ?_
  first | refine step_pure rfl (pure_load_agg (i := 0) (vs := ints .i64 [s.X, s.Y, s.A]) rfl rfl rfl rfl rfl (Nat.le_of_ble_eq_true rfl) rfl) ?_ | refine qp rfl rfl rfl ?_
  first | refine step_pure rfl (pure_fieldAddr rfl rfl rfl rfl rfl (by decide)) ?_ | refine qp rfl rfl rfl ?_
  first | refine step_pure rfl (pure_load (i := 1) rfl rfl rfl rfl rfl rfl) ?_ | refine qp rfl rfl rfl ?_
  first | refine step_pure rfl (pure_fieldAddr rfl rfl rfl rfl rfl (by decide)) ?_ | refine qp rfl rfl rfl ?_
  first | refine step_pure rfl (pure_load (i := 1) rfl rfl rfl rfl rfl rfl) ?_ | refine qp rfl rfl rfl ?_
  first | refine step_pure rfl (pure_fieldAddr rfl rfl rfl rfl rfl (by decide)) ?_ | refine qp rfl rfl rfl ?_
  first | refine step_pure rfl (pure_load (i := 1) rfl rfl rfl rfl rfl rfl) ?_ | refine qp rfl rfl rfl ?_
  first | refine step_pure rfl (pure_build_arr rfl zero30 rfl rfl rfl rfl) ?_ | refine qp rfl rfl rfl ?_
  first | refine step_as rfl (pure_eql_arr (l := [s.X, s.Y, s.A]) (r := [s.X, s.Y, s.A]) rfl rfl (by kernel_rfl) rfl rfl rfl rfl rfl rfl rfl rfl) (show _ = Value.bool true from congrArg Value.bool (decide_eq_true rfl)) ?_ | refine qp rfl rfl rfl ?_
  first | refine step_pure rfl (pure_pick_yes rfl rfl) ?_ | refine step_pure rfl (pure_pick_no rfl rfl) ?_ | refine step_pure rfl (pure_pick_bool rfl rfl rfl) ?_
  refine qa rfl rfl ?_
  refine Vc.step_end (fun a w ok => ?_)
  first | (refine WPs.run ?_ a w ok; clear ok w a) | skip
  exact s_ret fun a w ok => ends_k on (.inr rfl) ok (res_tmp Try.results6 rfl)
end Go.Proofs.Ytadginombcjbeaa
