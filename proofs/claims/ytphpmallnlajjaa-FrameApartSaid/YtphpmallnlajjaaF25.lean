/- The law FrameBack, walked. -/
import Derived.Test.YtphpmallnlajjaaF24
namespace Go.Proofs.Ytphpmallnlajjaa
open Go.RowKit Go.Vc
set_option linter.unusedVariables false
set_option maxHeartbeats 4000000 in
theorem frameback_any (l : List Fr) (b : List Int) (v u : Value) (w0 : World) (hv : FrsC (At w0) v l) (hl : ∀ f ∈ l, Bytes f.data) (hu : SlC (At w0) 1 u b.length (row b)) (hb : Bytes b) :
    Gives tb 6 [v, u] w0 (.bool true) := by
  obtain ⟨base1, cap1, rfl, hcap1⟩ := hv.slice
  obtain ⟨base2, cap2, rfl, hcap2⟩ := slc_str hu
  refine gives_ofk (fn := Try.f6) Try.func6 rfl Try.ntmps6 rfl (fun on => ?_)
  have hv : FrsC (Cz (fun _ => True) ⟨w0, [], []⟩) (.slice base1 l.length cap1) l := hv.mono fun p x h => cz_start p x ⟨h, trivial⟩
  have hu : SlC (Cz (fun _ => True) ⟨w0, [], []⟩) 1 (.slice base2 b.length cap2) b.length (row b) := hu.mono fun p x h => cz_start p x ⟨h, trivial⟩
  repeat refine s_seqs ?_
  refine s_reg ?_
  refine step_pure rfl (pure_assign rfl) ?_
  refine Vc.step_end (fun a w ok => ?_)
  first | (refine WPs.run ?_ a w ok; clear ok w a) | skip
  repeat refine s_seqs ?_
  refine s_reg ?_
  refine step_gives rfl fun11 rfl (fun w _ _ => awake_any w) ?_
  refine step_pure rfl (pure_assign rfl) ?_
  refine Vc.step_end (fun a w ok => ?_)
  first | (refine WPs.run ?_ a w ok; clear ok w a) | skip
  repeat refine s_seqs ?_
  refine s_meet [(0, .slice base1 l.length cap1), (1, .slice base2 b.length cap2), (5, .bool true), (24, .bool (!fewB l || decide ((b.length : Int) > 3000)))] [] ?_ (fun a w ok => WPs.run ?_ a w ok)
  · have hfa := fun w' kp => few_any l _ w' (hv.mono (Cz.now kp))
    generalize fewB l = fa at *
    repeat refine c_seq ?_
    refine c_region ?_
    refine step_pure rfl (pure_move rfl) ?_
    refine step_gives rfl fun12 rfl (fun w' hh kp => hfa w' kp) ?_
    refine step_pure rfl (pure_not rfl) ?_
    refine step_pure rfl (pure_move rfl) ?_
    refine step_split (t := 20) rfl (fun h20 => ?_) (fun h20 => ?_)
    · refine step_pass rfl rfl rfl ?_
      refine step_pass rfl rfl rfl ?_
      refine step_pass rfl rfl rfl ?_
      refine step_pure rfl (pure_pick_yes rfl rfl) ?_
      refine step_nil ?_
      refine less_of ⟨rfl, rfl, rfl, ?_, trivial⟩ rfl
      refine congrArg some (congrArg Value.bool ?_)
      clear hfa
      simp_all
    · refine step_pure rfl (pure_move rfl) ?_
      refine step_pure rfl (pure_len_slice rfl rfl rfl) ?_
      refine step_pure rfl (pure_gtr rfl rfl) ?_
      refine step_pure rfl (pure_pick_no rfl rfl) ?_
      refine step_nil ?_
      refine less_of ⟨rfl, rfl, rfl, ?_, trivial⟩ rfl
      refine congrArg some (congrArg Value.bool ?_)
      clear hfa
      simp_all
  repeat refine s_seqs ?_
  refine s_cond rfl (fun h => ?_) (fun h => ?_)
  · repeat refine s_seqs ?_
    refine s_reg ?_
    refine step_pure rfl (pure_move rfl) ?_
    refine step_pure rfl (pure_assign rfl) ?_
    refine Vc.step_end (fun a w ok => ?_)
    first | (refine WPs.run ?_ a w ok; clear ok w a) | skip
    exact s_ret fun a w ok => ends_k on (.inr rfl) ok (res_tmp Try.results6 rfl)
  have hfew : fewB l = true ∧ b.length ≤ 3000 := by
    simp at h
    exact ⟨h.1, by omega⟩
  have hfl := few_in hfew.1
  have hb3 := hfew.2
  clear h
  refine s_skip fun a w ok => WPs.run ?_ a w ok
  have hml : 3000 ≤ maxLen := by decide
  repeat refine s_seqs ?_
  refine s_reg ?_
  refine step_pure rfl (pure_move rfl) ?_
  refine step_givesP on.sc rfl fun13 rfl (fun w' Z' hh kp hZ hC => write_P l _ w' hZ (hv.mono fun p x h => (hC p x h).1) (fun f hf => Nat.le_trans (hfl.2 f hf).1 hml)) ?_
  rintro x E1 g ⟨v3, rfl, hw⟩
  replace on := on.next g
  replace hv := hv.mono g.cz
  replace hu := hu.mono g.cz
  clear g
  refine step_pure rfl (pure_move rfl) ?_
  refine step_pure rfl (pure_extract rfl rfl) ?_
  refine step_pure rfl (pure_extract rfl rfl) ?_
  refine step_pure rfl (pure_assign rfl) ?_
  refine step_pure rfl (pure_assign rfl) ?_
  refine Vc.step_end (fun a w ok => ?_)
  first | (refine WPs.run ?_ a w ok; clear ok w a) | skip
  have hwb := wBs_bytes hl
  have hwl := wBs_le l
  repeat refine s_seqs ?_
  refine s_reg ?_
  refine step_pure rfl (pure_move rfl) ?_
  refine step_givesP on.sc rfl fun19 rfl (fun w' Z' hh kp hZ hC => read_P (wBs l) _ w' hZ (hw.mono fun p x h => (hC p x h).1) hwb (by omega)) ?_
  rintro x E2 g ⟨v4, rfl, hr⟩
  replace on := on.next g
  replace hv := hv.mono g.cz
  replace hu := hu.mono g.cz
  replace hw := hw.mono g.cz
  clear g
  refine step_pure rfl (pure_move rfl) ?_
  refine step_pure rfl (pure_extract rfl rfl) ?_
  refine step_pure rfl (pure_extract rfl rfl) ?_
  refine step_pure rfl (pure_assign rfl) ?_
  refine step_pure rfl (pure_assign rfl) ?_
  refine Vc.step_end (fun a w ok => ?_)
  first | (refine WPs.run ?_ a w ok; clear ok w a) | skip
  repeat refine s_seqs ?_
  refine s_reg ?_
  refine step_pure rfl (pure_move rfl) ?_
  refine step_pure rfl (pure_move rfl) ?_
  refine step_gives rfl fun21 rfl (fun w' hh kp => all_any l ((rdAll (wBs l)).getD []) _ _ w' (hv.mono (Cz.now kp)) (hr.mono (Cz.now kp)) (fun f hf => by have := (hfl.2 f hf).2; omega) (by omega)) ?_
  refine step_pure rfl (pure_assign rfl) ?_
  refine Vc.step_end (fun a w ok => ?_)
  first | (refine WPs.run ?_ a w ok; clear ok w a) | skip
  obtain ⟨base3, cap3, rfl, hcap3⟩ := slc_str hw
  repeat refine s_seqs ?_
  refine s_meet [(1, .slice base2 b.length cap2), (5, .bool true), (57, .bool false)] [] ?_ (fun a w ok => WPs.run ?_ a w ok)
  · cases hok : wrOk l with
    | false =>
      rw [wBs_no hok]
      repeat refine c_seq ?_
      refine c_region ?_
      refine step_pure rfl (pure_move rfl) ?_
      refine step_pure rfl (pure_eql rfl rfl) ?_
      refine step_pure rfl (pure_move rfl) ?_
      first | refine step_pure rfl (pure_move rfl) ?_ | refine step_pass rfl rfl rfl ?_
      first | refine step_pure rfl (pure_not rfl) ?_ | refine step_pass rfl rfl rfl ?_
      first | refine step_pure rfl (pure_move rfl) ?_ | refine step_pass rfl rfl rfl ?_
      first | refine step_pure rfl (pure_move rfl) ?_ | refine step_pass rfl rfl rfl ?_
      first | refine step_pure rfl (pure_neq rfl rfl) ?_ | refine step_pass rfl rfl rfl ?_
      first | refine step_pure rfl (pure_pick_yes rfl rfl) ?_ | refine step_pure rfl (pure_pick_no rfl rfl) ?_ | refine step_pure rfl (pure_pick_bool rfl rfl rfl) ?_ | refine step_pass rfl rfl rfl ?_
      first | refine step_pure rfl (pure_pick_yes rfl rfl) ?_ | refine step_pure rfl (pure_pick_no rfl rfl) ?_ | refine step_pure rfl (pure_pick_bool rfl rfl rfl) ?_
      refine step_pure rfl (pure_move rfl) ?_
      first | refine step_pure rfl (pure_move rfl) ?_ | refine step_pass rfl rfl rfl ?_
      first | refine step_pure rfl (pure_neq rfl rfl) ?_ | refine step_pass rfl rfl rfl ?_
      first | refine step_pure rfl (pure_move rfl) ?_ | refine step_pass rfl rfl rfl ?_
      first | refine step_pure rfl (pure_move rfl) ?_ | refine step_pass rfl rfl rfl ?_
      first | refine step_pure rfl (pure_len_slice rfl rfl rfl) ?_ | refine step_pass rfl rfl rfl ?_
      first | refine step_pure rfl (pure_gtr rfl rfl) ?_ | refine step_pass rfl rfl rfl ?_
      first | refine step_pure rfl (pure_pick_yes rfl rfl) ?_ | refine step_pure rfl (pure_pick_no rfl rfl) ?_ | refine step_pure rfl (pure_pick_bool rfl rfl rfl) ?_ | refine step_pass rfl rfl rfl ?_
      first | refine step_pure rfl (pure_pick_yes rfl rfl) ?_ | refine step_pure rfl (pure_pick_no rfl rfl) ?_ | refine step_pure rfl (pure_pick_bool rfl rfl rfl) ?_
      refine step_nil ?_
      exact less_of ⟨rfl, rfl, rfl, trivial⟩ rfl
    | true =>
      rw [rd_wBs hok, show allB l ((some l).getD []) = true from (allB_iff hl hl).2 rfl]
      repeat refine c_seq ?_
      refine c_region ?_
      refine step_pure rfl (pure_move rfl) ?_
      refine step_pure rfl (pure_eql rfl rfl) ?_
      refine step_pure rfl (pure_move rfl) ?_
      first | refine step_pure rfl (pure_move rfl) ?_ | refine step_pass rfl rfl rfl ?_
      first | refine step_pure rfl (pure_not rfl) ?_ | refine step_pass rfl rfl rfl ?_
      first | refine step_pure rfl (pure_move rfl) ?_ | refine step_pass rfl rfl rfl ?_
      first | refine step_pure rfl (pure_move rfl) ?_ | refine step_pass rfl rfl rfl ?_
      first | refine step_pure rfl (pure_neq rfl rfl) ?_ | refine step_pass rfl rfl rfl ?_
      first | refine step_pure rfl (pure_pick_yes rfl rfl) ?_ | refine step_pure rfl (pure_pick_no rfl rfl) ?_ | refine step_pure rfl (pure_pick_bool rfl rfl rfl) ?_ | refine step_pass rfl rfl rfl ?_
      first | refine step_pure rfl (pure_pick_yes rfl rfl) ?_ | refine step_pure rfl (pure_pick_no rfl rfl) ?_ | refine step_pure rfl (pure_pick_bool rfl rfl rfl) ?_
      refine step_pure rfl (pure_move rfl) ?_
      first | refine step_pure rfl (pure_move rfl) ?_ | refine step_pass rfl rfl rfl ?_
      first | refine step_pure rfl (pure_neq rfl rfl) ?_ | refine step_pass rfl rfl rfl ?_
      first | refine step_pure rfl (pure_move rfl) ?_ | refine step_pass rfl rfl rfl ?_
      first | refine step_pure rfl (pure_move rfl) ?_ | refine step_pass rfl rfl rfl ?_
      first | refine step_pure rfl (pure_len_slice rfl rfl rfl) ?_ | refine step_pass rfl rfl rfl ?_
      first | refine step_pure rfl (pure_gtr rfl rfl) ?_ | refine step_pass rfl rfl rfl ?_
      first | refine step_pure rfl (pure_pick_yes rfl rfl) ?_ | refine step_pure rfl (pure_pick_no rfl rfl) ?_ | refine step_pure rfl (pure_pick_bool rfl rfl rfl) ?_ | refine step_pass rfl rfl rfl ?_
      first | refine step_pure rfl (pure_pick_yes rfl rfl) ?_ | refine step_pure rfl (pure_pick_no rfl rfl) ?_ | refine step_pure rfl (pure_pick_bool rfl rfl rfl) ?_
      refine step_nil ?_
      exact less_of ⟨rfl, rfl, rfl, trivial⟩ rfl
  repeat refine s_seqs ?_
  refine s_cond_no rfl rfl ?_
  refine s_skip fun a w ok => WPs.run ?_ a w ok
  clear hw hr hwb hwl hv
  repeat refine s_seqs ?_
  refine s_reg ?_
  refine step_pure rfl (pure_move rfl) ?_
  refine step_givesP on.sc rfl fun19 rfl (fun w' Z' hh kp hZ hC => read_P b _ w' hZ (hu.mono fun p x h => (hC p x h).1) hb (by omega)) ?_
  rintro x E3 g ⟨v5, rfl, hr⟩
  replace on := on.next g
  replace hu := hu.mono g.cz
  clear g
  refine step_pure rfl (pure_move rfl) ?_
  refine step_pure rfl (pure_extract rfl rfl) ?_
  refine step_pure rfl (pure_extract rfl rfl) ?_
  refine step_pure rfl (pure_assign rfl) ?_
  refine step_pure rfl (pure_assign rfl) ?_
  refine Vc.step_end (fun a w ok => ?_)
  first | (refine WPs.run ?_ a w ok; clear ok w a) | skip
  obtain ⟨hkok, hkb⟩ := rdGet_in hb
  have hkin := wrOk_in hkok
  have hkbig := wrOk_big hkok
  have hback := fun fs => rdAll_read (fs := fs) hb
  have hks : ∀ fs, rdAll b = some fs → (rdAll b).getD [] = fs := by intro fs h; rw [h]; rfl
  have hkn : rdAll b = none → (rdAll b).getD [] = [] := by intro h; rw [h]; rfl
  generalize hks' : (rdAll b).getD [] = ks at *
  obtain ⟨base5, cap5, rfl, hcap5⟩ := hr.slice
  generalize hg : (if (rdAll b).isSome = true then (0 : Int) else 20) = gv at *
  repeat refine s_seqs ?_
  refine s_reg ?_
  refine step_pure rfl (pure_assign rfl) ?_
  refine Vc.step_end (fun a w ok => ?_)
  first | (refine WPs.run ?_ a w ok; clear ok w a) | skip
  repeat refine s_seqs ?_
  refine s_block ?_
  repeat refine s_seqs ?_
  refine s_loopP (α := Nat) (fun i => [(1, .slice base2 b.length cap2), (5, .bool true), (11, .slice base5 ks.length cap5), (12, .int .i64 gv), (13, .int .i64 i)]) (fun _ => []) (fun i _ => i ≤ ks.length) (fun i => ks.length - i) 0 (Nat.zero_le _) (less_of ⟨rfl, rfl, rfl, rfl, rfl, trivial⟩ rfl) ?_
  intro i E4 hi g
  replace on := on.next g
  replace hu := hu.mono g.cz
  replace hr := hr.mono g.cz
  clear g
  repeat refine s_seqs ?_
  refine s_reg ?_
  refine step_pure rfl (pure_move rfl) ?_
  refine step_pure rfl (pure_move rfl) ?_
  refine step_pure rfl (pure_len_slice rfl rfl rfl) ?_
  refine step_pure rfl (pure_lss rfl rfl) ?_
  refine Vc.step_end (fun a w ok => ?_)
  first | (refine WPs.run ?_ a w ok; clear ok w a) | skip
  repeat refine s_seqs ?_
  refine s_cond rfl (fun h => ?_) (fun h => ?_)
  · have hlt : i < ks.length := by have := of_decide_eq_true h; omega
    clear h
    refine s_skip fun a w ok => WPs.run ?_ a w ok
    repeat refine s_seqs ?_
    refine s_block ?_
    obtain ⟨p, cp, cs, hq, hfc, hp⟩ := hr.at hlt
    cases hq
    have hok := hkin.2 _ (List.getElem_mem hlt)
    have hdb := (hkbig _ (List.getElem_mem hlt)).1
    have h5 := hfc.five
    have hck := fun w' kp => check_any ks[i] cs w' (hfc.mono (Cz.now kp)) hdb
    rw [if_pos hok] at hck
    repeat refine s_seqs ?_
    refine s_reg ?_
    refine step_pure rfl (pure_move rfl) ?_
    refine step_pure rfl (pure_move rfl) ?_
    refine step_as rfl (pure_indexAddr_at rfl rfl rfl rfl rfl (by omega) (by omega)) (show _ = Value.pointer (some (p.add (i * 5))) from by show Value.pointer (some (p.add ((i : Int).toNat * 5))) = _; rw [Int.toNat_natCast]) ?_
    refine step_pure rfl (pure_cel_agg rfl rfl rfl h5 (fun j x hx => (hp j x hx).1)) ?_
    refine step_gives rfl fun15 rfl (fun w' _ kp => hck w' kp) ?_
    refine step_pure rfl (pure_neq rfl rfl) ?_
    refine Vc.step_end (fun a w ok => ?_)
    first | (refine WPs.run ?_ a w ok; clear ok w a) | skip
    repeat refine s_seqs ?_
    refine s_cond_no rfl rfl ?_
    refine s_skip fun a w ok => WPs.run ?_ a w ok
    repeat refine s_seqs ?_
    refine s_reg ?_
    refine step_pure rfl (pure_move rfl) ?_
    first | refine step_pure rfl (pure_add64 rfl rfl (by omega) (by omega)) ?_ | refine step_pure rfl (pure_add rfl rfl) ?_
    refine step_pure rfl (pure_assign rfl) ?_
    refine Vc.step_end (fun a w ok => ?_)
    refine ⟨i + 1, E4, hlt, by omega, Gt.refl _, Less.ok ?_ ok⟩
    exact less_sub ⟨rfl, rfl, rfl, rfl, rfl, trivial⟩ (List.nil_sublist _)
  refine s_exit fun a w ok => WPs.run ?_ a w ok
  repeat refine s_seqs ?_
  refine s_reg ?_
  refine step_pure rfl (pure_move rfl) ?_
  refine step_givesP on.sc rfl fun13 rfl (fun w' Z' hh kp hZ hC => write_P ks _ w' hZ (hr.mono fun p x h => (hC p x h).1) (fun f hf => (hkbig f hf).1)) ?_
  rintro x E5 g ⟨v6, rfl, hw⟩
  replace on := on.next g
  replace hu := hu.mono g.cz
  refine step_pure rfl (pure_move rfl) ?_
  refine step_pure rfl (pure_extract rfl rfl) ?_
  refine step_pure rfl (pure_extract rfl rfl) ?_
  refine step_pure rfl (pure_assign rfl) ?_
  refine step_pure rfl (pure_assign rfl) ?_
  refine Vc.step_end (fun a w ok => ?_)
  first | (refine WPs.run ?_ a w ok; clear ok w a) | skip
  rw [if_pos hkok, wBs_ok hkok] at *
  repeat refine s_seqs ?_
  refine s_meet [(4, .bool true)] [] ?_ (fun a w ok => WPs.run ?_ a w ok)
  · cases hrd : rdAll b with
    | none =>
      have hz := hkn hrd
      subst hz
      rw [hrd] at hg
      have : gv = 20 := hg.symm
      subst this
      repeat refine c_seq ?_
      refine c_region ?_
      refine step_pure rfl (pure_move rfl) ?_
      refine step_pure rfl (pure_move rfl) ?_
      first | refine step_pure rfl (pure_move rfl) ?_ | refine step_pass rfl rfl rfl ?_
      first | refine step_pure rfl (pure_neq rfl rfl) ?_ | refine step_pass rfl rfl rfl ?_
      first | refine step_pure rfl (pure_move rfl) ?_ | refine step_pass rfl rfl rfl ?_
      first | refine step_pure rfl (pure_move rfl) ?_ | refine step_pass rfl rfl rfl ?_
      first | refine step_pure rfl (pure_len_slice rfl rfl rfl) ?_ | refine step_pass rfl rfl rfl ?_
      first | refine step_pure rfl (pure_eql rfl rfl) ?_ | refine step_pass rfl rfl rfl ?_
      first | refine step_pure rfl (pure_pick_yes rfl rfl) ?_ | refine step_pure rfl (pure_pick_no rfl rfl) ?_ | refine step_pure rfl (pure_pick_bool rfl rfl rfl) ?_ | refine step_pass rfl rfl rfl ?_
      first | refine step_pure rfl (pure_move rfl) ?_ | refine step_pass rfl rfl rfl ?_
      first | refine step_pure rfl (pure_move rfl) ?_ | refine step_pass rfl rfl rfl ?_
      first | refine step_pure rfl (pure_eql rfl rfl) ?_ | refine step_pass rfl rfl rfl ?_
      first | refine step_pure rfl (pure_move rfl) ?_ | refine step_pass rfl rfl rfl ?_
      first | refine step_pure rfl (pure_move rfl) ?_ | refine step_pass rfl rfl rfl ?_
      refine step_pass rfl rfl rfl ?_
      first | refine step_pure rfl (pure_move rfl) ?_ | refine step_pass rfl rfl rfl ?_
      refine step_pass rfl rfl rfl ?_
      first | refine step_pure rfl (pure_str_eql rfl rfl) ?_ | refine step_pass rfl rfl rfl ?_
      first | refine step_pure rfl (pure_pick_yes rfl rfl) ?_ | refine step_pure rfl (pure_pick_no rfl rfl) ?_ | refine step_pure rfl (pure_pick_bool rfl rfl rfl) ?_ | refine step_pass rfl rfl rfl ?_
      first | refine step_pure rfl (pure_pick_yes rfl rfl) ?_ | refine step_pure rfl (pure_pick_no rfl rfl) ?_ | refine step_pure rfl (pure_pick_bool rfl rfl rfl) ?_ | refine step_pass rfl rfl rfl ?_
      first | refine step_pure rfl (pure_pick_yes rfl rfl) ?_ | refine step_pure rfl (pure_pick_no rfl rfl) ?_ | refine step_pure rfl (pure_pick_bool rfl rfl rfl) ?_
      refine step_pure rfl (pure_assign rfl) ?_
      refine step_nil ?_
      exact less_of ⟨rfl, trivial⟩ rfl
    | some fs =>
      have hz := hks fs hrd
      subst hz
      have hbb := (hback _ hrd).1
      rw [hrd] at hg
      have : gv = 0 := hg.symm
      subst this
      rw [← hbb] at hw
      repeat refine c_seq ?_
      refine c_region ?_
      refine step_pure rfl (pure_move rfl) ?_
      refine step_pure rfl (pure_move rfl) ?_
      first | refine step_pure rfl (pure_move rfl) ?_ | refine step_pass rfl rfl rfl ?_
      first | refine step_pure rfl (pure_neq rfl rfl) ?_ | refine step_pass rfl rfl rfl ?_
      first | refine step_pure rfl (pure_move rfl) ?_ | refine step_pass rfl rfl rfl ?_
      first | refine step_pure rfl (pure_move rfl) ?_ | refine step_pass rfl rfl rfl ?_
      first | refine step_pure rfl (pure_len_slice rfl rfl rfl) ?_ | refine step_pass rfl rfl rfl ?_
      first | refine step_pure rfl (pure_eql rfl rfl) ?_ | refine step_pass rfl rfl rfl ?_
      first | refine step_pure rfl (pure_pick_yes rfl rfl) ?_ | refine step_pure rfl (pure_pick_no rfl rfl) ?_ | refine step_pure rfl (pure_pick_bool rfl rfl rfl) ?_ | refine step_pass rfl rfl rfl ?_
      first | refine step_pure rfl (pure_move rfl) ?_ | refine step_pass rfl rfl rfl ?_
      first | refine step_pure rfl (pure_move rfl) ?_ | refine step_pass rfl rfl rfl ?_
      first | refine step_pure rfl (pure_eql rfl rfl) ?_ | refine step_pass rfl rfl rfl ?_
      first | refine step_pure rfl (pure_move rfl) ?_ | refine step_pass rfl rfl rfl ?_
      first | refine step_pure rfl (pure_move rfl) ?_ | refine step_pass rfl rfl rfl ?_
      first | refine step_pure rfl (pure_cz_string rfl rfl rfl rfl rfl rfl rfl hw) ?_ | refine step_pass rfl rfl rfl ?_
      first | refine step_pure rfl (pure_move rfl) ?_ | refine step_pass rfl rfl rfl ?_
      first | refine step_pure rfl (pure_cz_string rfl rfl rfl rfl rfl rfl rfl hu) ?_ | refine step_pass rfl rfl rfl ?_
      first | refine step_as rfl (pure_str_eql rfl rfl) (show _ = Value.bool true from by rw [beq_self_eq_true]) ?_ | refine step_pass rfl rfl rfl ?_
      first | refine step_pure rfl (pure_pick_yes rfl rfl) ?_ | refine step_pure rfl (pure_pick_no rfl rfl) ?_ | refine step_pure rfl (pure_pick_bool rfl rfl rfl) ?_ | refine step_pass rfl rfl rfl ?_
      first | refine step_pure rfl (pure_pick_yes rfl rfl) ?_ | refine step_pure rfl (pure_pick_no rfl rfl) ?_ | refine step_pure rfl (pure_pick_bool rfl rfl rfl) ?_ | refine step_pass rfl rfl rfl ?_
      first | refine step_pure rfl (pure_pick_yes rfl rfl) ?_ | refine step_pure rfl (pure_pick_no rfl rfl) ?_ | refine step_pure rfl (pure_pick_bool rfl rfl rfl) ?_
      refine step_pure rfl (pure_assign rfl) ?_
      refine step_nil ?_
      exact less_of ⟨rfl, trivial⟩ rfl
  exact s_ret fun a w ok => ends_k on (.inr rfl) ok (res_tmp Try.results6 rfl)
end Go.Proofs.Ytphpmallnlajjaa
