/- The law PacketBack, walked. -/
import Derived.Test.YtajcfafamdacdaaP9
namespace Go.Proofs.Ytajcfafamdacdaa
open Go.RowKit Go.Vc
set_option linter.unusedVariables false

theorem pB_no {p : Pk} (h : pOk p = false) : pB p = [] := by unfold pB; rw [h]; rfl
theorem pG_some {b : List Int} {p : Pk} (h : pRd b = some p) : pG b = p ∧ pX b = 0 := by unfold pG pX; rw [h]; exact ⟨rfl, rfl⟩
theorem pG_none {b : List Int} (h : pRd b = none) : pG b = ⟨0, 0, []⟩ ∧ pX b = 30 := by unfold pG pX; rw [h]; exact ⟨rfl, rfl⟩
set_option maxHeartbeats 8000000 in
theorem packetback_any (p : Pk) (cs : List Value) (b : List Int) (v : Value) (w0 : World) (hp : PkC (At w0) p cs) (hpb : ∀ f ∈ p.fs, Bytes f.data) (hu : SlC (At w0) 1 v b.length (row b)) (hb : Bytes b) : Gives tb 6 [.agg cs.toArray, v] w0 (.bool true) := by
  obtain ⟨fv, rfl, hv⟩ := hp
  obtain ⟨fb, fc, rfl, hfc⟩ := hv.slice
  obtain ⟨base1, cap1, rfl, hcap1⟩ := slc_str hu
  refine gives_ofk (fn := Try.f6) Try.func6 rfl Try.ntmps6 rfl (fun on => ?_)
  have hv : FrsC (Cz (fun _ => True) ⟨w0, [], []⟩) (.slice fb p.fs.length fc) p.fs := hv.mono fun p x h => cz_start p x ⟨h, trivial⟩
  have hu : SlC (Cz (fun _ => True) ⟨w0, [], []⟩) 1 (.slice base1 b.length cap1) b.length (row b) := hu.mono fun p x h => cz_start p x ⟨h, trivial⟩
  repeat refine s_seqs ?_
  refine s_reg ?_
  refine step_box_agg rfl rfl (fun b2 => ?_)
  refine step_pure rfl (pure_assign rfl) ?_
  refine Vc.step_end (fun a w ok => ?_)
  first | (refine WPs.run ?_ a w ok; clear ok w a) | skip
  repeat refine s_seqs ?_
  refine s_reg ?_
  refine step_gives rfl fun10 rfl (fun w _ _ => awake_any w) ?_
  refine step_pure rfl (pure_assign rfl) ?_
  refine Vc.step_end (fun a w ok => ?_)
  first | (refine WPs.run ?_ a w ok; clear ok w a) | skip
  repeat refine s_seqs ?_
  refine s_meet [(1, .slice base1 b.length cap1), (2, .pointer (some ⟨b2, 0, none⟩)), (5, .bool true), (31, .bool (!fewB p.fs || decide ((b.length : Int) > 3000)))] [⟨b2, [.int .i64 p.side, .int .i64 p.num, .slice fb p.fs.length fc], 24⟩] ?_ (fun a w ok => WPs.run ?_ a w ok)
  · have hfa := fun w' (kp : Keep w0 w' []) => few_any p.fs _ w' (hv.mono (Cz.now kp))
    clear hv hu hpb
    generalize fewB p.fs = fa at *
    generalize p.fs.length = q at *
    generalize b.length = r at *
    repeat refine c_seq ?_
    refine c_region ?_
    refine step_pure rfl (pure_fieldAddr rfl rfl rfl rfl rfl (by decide)) ?_
    first | refine step_pure rfl (pure_load (i := 0) rfl rfl rfl rfl rfl rfl) ?_ | refine step_pure rfl (pure_load (i := 1) rfl rfl rfl rfl rfl rfl) ?_ | refine step_pure rfl (pure_load (i := 2) rfl rfl rfl rfl rfl rfl) ?_ | refine step_pure rfl (pure_load (i := 3) rfl rfl rfl rfl rfl rfl) ?_ | refine step_pure rfl (pure_load (i := 4) rfl rfl rfl rfl rfl rfl) ?_ | refine step_pure rfl (pure_load (i := 5) rfl rfl rfl rfl rfl rfl) ?_
    refine step_gives rfl fun11 rfl (fun w' hh kp => hfa w' kp) ?_
    refine step_pure rfl (pure_not rfl) ?_
    refine step_pure rfl (pure_move rfl) ?_
    refine step_split (t := 27) rfl (fun h27 => ?_) (fun h27 => ?_)
    · refine step_pass rfl rfl rfl ?_
      refine step_pass rfl rfl rfl ?_
      refine step_pass rfl rfl rfl ?_
      refine step_pure rfl (pure_pick_yes rfl rfl) ?_
      refine step_nil ?_
      refine less_of ⟨rfl, rfl, rfl, ?_, trivial⟩ rfl
      refine congrArg some (congrArg Value.bool ?_)
      clear hfa
      simp_all
    · refine step_pure rfl (pure_move rfl) ?_
      refine step_pure rfl (pure_len_slice rfl rfl rfl) ?_
      refine step_pure rfl (pure_gtr rfl rfl) ?_
      refine step_pure rfl (pure_pick_no rfl rfl) ?_
      refine step_nil ?_
      refine less_of ⟨rfl, rfl, rfl, ?_, trivial⟩ rfl
      refine congrArg some (congrArg Value.bool ?_)
      clear hfa
      simp_all
  repeat refine s_seqs ?_
  refine s_cond rfl (fun h => ?_) (fun h => ?_)
  · repeat refine s_seqs ?_
    refine s_reg ?_
    refine step_pure rfl (pure_move rfl) ?_
    refine step_pure rfl (pure_assign rfl) ?_
    refine Vc.step_end (fun a w ok => ?_)
    first | (refine WPs.run ?_ a w ok; clear ok w a) | skip
    exact s_ret fun a w ok => ends_k on (.inr rfl) ok (res_tmp Try.results6 rfl)
  have hh2 : fewB p.fs = true ∧ b.length ≤ 3000 := by simp at h; exact ⟨h.1, by omega⟩
  obtain ⟨hfew, hb3⟩ := hh2
  obtain ⟨hbig, hle, h30, hrl⟩ := few_big hfew
  clear h
  refine s_skip fun a w ok => WPs.run ?_ a w ok
  clear ok w a
  have hpbb := pB_bytes hpb
  have hpbl := pB_le p
  repeat refine s_seqs ?_
  refine s_reg ?_
  refine step_pure rfl (pure_load_agg (i := 0) rfl rfl rfl rfl rfl (by show 3 ≤ 3; decide) rfl) ?_
  refine step_givesP on.sc rfl fun12 rfl (fun w' Z' hh kp hZ hC => pwrite_P p _ w' hZ ⟨_, rfl, hv.mono (Cz.now kp)⟩ hbig) ?_
  rintro u E2 g ⟨v6, rfl, hw6⟩
  replace on := on.next g
  replace hv := hv.mono g.cz
  replace hu := hu.mono g.cz
  clear g
  obtain ⟨base6, cap6, rfl, hcap6⟩ := slc_str hw6
  refine step_pure rfl (pure_move rfl) ?_
  refine step_pure rfl (pure_extract rfl rfl) ?_
  refine step_pure rfl (pure_extract rfl rfl) ?_
  refine step_pure rfl (pure_assign rfl) ?_
  refine step_pure rfl (pure_assign rfl) ?_
  refine Vc.step_end (fun a w ok => ?_)
  first | (refine WPs.run ?_ a w ok; clear ok w a) | skip
  repeat refine s_seqs ?_
  refine s_reg ?_
  refine step_pure rfl (pure_move rfl) ?_
  refine step_givesP on.sc rfl fun20 rfl (fun w' Z' hh kp hZ hC => pread_P (pB p) _ w' hZ (hw6.mono (Cz.now kp)) hpbb (by omega)) ?_
  rintro u E3 g ⟨v8, rfl, hr8⟩
  replace on := on.next g
  replace hv := hv.mono g.cz
  replace hu := hu.mono g.cz
  clear g hw6
  obtain ⟨b8', c8', rfl, hc8'⟩ := hr8.slice
  refine step_pure rfl (pure_move rfl) ?_
  refine step_pure rfl (pure_extract rfl rfl) ?_
  refine step_pure rfl (pure_extract rfl rfl) ?_
  refine step_alloc rfl zero24 (fun b8 => ?_)
  refine step_store_agg 0 rfl rfl rfl (of_one rfl) rfl rfl rfl rfl (Nat.le_of_ble_eq_true rfl) rfl ?_
  refine step_pure rfl (pure_assign rfl) ?_
  refine Vc.step_end (fun a w ok => ?_)
  first | (refine WPs.run ?_ a w ok; clear ok w a) | skip
  repeat refine s_seqs ?_
  refine s_reg ?_
  refine step_pure rfl (pure_load_agg (i := 1) rfl rfl rfl rfl rfl (by show 3 ≤ 3; decide) rfl) ?_
  refine step_pure rfl (pure_load_agg (i := 0) rfl rfl rfl rfl rfl (by show 3 ≤ 3; decide) rfl) ?_
  refine step_gives rfl fun24 rfl (fun w' hh kp => psame_any p (pG (pB p)) _ _ w' ⟨_, rfl, hv.mono (Cz.now kp)⟩ ⟨_, rfl, hr8.mono (Cz.now kp)⟩ hrl (by omega)) ?_
  refine step_pure rfl (pure_assign rfl) ?_
  refine Vc.step_end (fun a w ok => ?_)
  first | (refine WPs.run ?_ a w ok; clear ok w a) | skip
  clear hr8
  repeat refine s_seqs ?_
  refine s_meet [(1, .slice base1 b.length cap1), (2, .pointer (some ⟨b2, 0, none⟩)), (5, .bool true), (64, .bool false)] [⟨b2, [.int .i64 p.side, .int .i64 p.num, .slice fb p.fs.length fc], 24⟩] ?_ (fun a w ok => WPs.run ?_ a w ok)
  · cases hok : pOk p with
    | true =>
      obtain ⟨h1, h2⟩ := pG_some (pRd_pB hok)
      have hsm : psB p (pG (pB p)) = true := by rw [h1]; exact (psB_iff hpb hpb).2 rfl
      rw [hsm, h2, pE_yes hok]
      repeat refine c_seq ?_
      refine c_region ?_
      refine step_pure rfl (pure_move rfl) ?_
      refine step_pure rfl (pure_eql rfl rfl) ?_
      refine step_pure rfl (pure_move rfl) ?_
      refine step_pure rfl (pure_move rfl) ?_
      refine step_pure rfl (pure_not rfl) ?_
      refine step_pure rfl (pure_move rfl) ?_
      refine step_pure rfl (pure_move rfl) ?_
      refine step_pure rfl (pure_neq rfl rfl) ?_
      refine step_pure rfl (pure_pick_no rfl rfl) ?_
      refine step_pure rfl (pure_pick_yes rfl rfl) ?_
      refine step_pure rfl (pure_move rfl) ?_
      refine step_pure rfl (pure_move rfl) ?_
      refine step_pure rfl (pure_neq rfl rfl) ?_
      refine step_pure rfl (pure_move rfl) ?_
      refine step_pass rfl rfl rfl ?_
      refine step_pass rfl rfl rfl ?_
      refine step_pass rfl rfl rfl ?_
      refine step_pure rfl (pure_pick_no rfl rfl) ?_
      refine step_pure rfl (pure_pick_no rfl rfl) ?_
      refine step_nil ?_
      exact less_sub ⟨rfl, rfl, rfl, rfl, trivial⟩ (by repeat (first | exact List.Sublist.refl _ | exact List.nil_sublist _ | apply List.Sublist.cons_cons | apply List.Sublist.cons))
    | false =>
      rw [pE_no hok, pB_no hok]
      repeat refine c_seq ?_
      refine c_region ?_
      refine step_pure rfl (pure_move rfl) ?_
      refine step_pure rfl (pure_eql rfl rfl) ?_
      refine step_pure rfl (pure_move rfl) ?_
      refine step_pass rfl rfl rfl ?_
      refine step_pass rfl rfl rfl ?_
      refine step_pass rfl rfl rfl ?_
      refine step_pass rfl rfl rfl ?_
      refine step_pass rfl rfl rfl ?_
      refine step_pass rfl rfl rfl ?_
      refine step_pure rfl (pure_pick_no rfl rfl) ?_
      refine step_pure rfl (pure_move rfl) ?_
      refine step_pure rfl (pure_move rfl) ?_
      refine step_pure rfl (pure_neq rfl rfl) ?_
      refine step_pure rfl (pure_move rfl) ?_
      refine step_pure rfl (pure_move rfl) ?_
      refine step_pure rfl (pure_len_slice rfl rfl rfl) ?_
      refine step_pure rfl (pure_gtr rfl rfl) ?_
      refine step_pure rfl (pure_pick_yes rfl rfl) ?_
      refine step_pure rfl (pure_pick_no rfl rfl) ?_
      refine step_nil ?_
      exact less_sub ⟨rfl, rfl, rfl, rfl, trivial⟩ (by repeat (first | exact List.Sublist.refl _ | exact List.nil_sublist _ | apply List.Sublist.cons_cons | apply List.Sublist.cons))
  repeat refine s_seqs ?_
  refine s_cond_no rfl rfl ?_
  refine s_skip fun a w ok => WPs.run ?_ a w ok
  clear ok w a
  clear hpbb hpbl
  obtain ⟨hgb, hgk⟩ := pG_in hb
  have hgbig := wrOk_big hgk
  repeat refine s_seqs ?_
  refine s_reg ?_
  refine step_pure rfl (pure_move rfl) ?_
  refine step_givesP on.sc rfl fun20 rfl (fun w' Z' hh kp hZ hC => pread_P b _ w' hZ (hu.mono (Cz.now kp)) hb (by omega)) ?_
  rintro u E4 g ⟨v11, rfl, hr11⟩
  replace on := on.next g
  replace hu := hu.mono g.cz
  clear g hv
  obtain ⟨b11', c11', rfl, hc11'⟩ := hr11.slice
  refine step_pure rfl (pure_move rfl) ?_
  refine step_pure rfl (pure_extract rfl rfl) ?_
  refine step_pure rfl (pure_extract rfl rfl) ?_
  refine step_alloc rfl zero24 (fun b11 => ?_)
  refine step_store_agg 0 rfl rfl rfl (of_one rfl) rfl rfl rfl rfl (Nat.le_of_ble_eq_true rfl) rfl ?_
  refine step_pure rfl (pure_assign rfl) ?_
  refine Vc.step_end (fun a w ok => ?_)
  first | (refine WPs.run ?_ a w ok; clear ok w a) | skip
  repeat refine s_seqs ?_
  refine s_reg ?_
  refine step_pure rfl (pure_load_agg (i := 0) rfl rfl rfl rfl rfl (by show 3 ≤ 3; decide) rfl) ?_
  refine step_givesP on.sc rfl fun12 rfl (fun w' Z' hh kp hZ hC => pwrite_P (pG b) _ w' hZ ⟨_, rfl, hr11.mono (Cz.now kp)⟩ (fun f hf => (hgbig f hf).1)) ?_
  rintro u E5 g ⟨v13, rfl, hw13⟩
  replace on := on.next g
  replace hu := hu.mono g.cz
  clear g hr11
  refine step_pure rfl (pure_move rfl) ?_
  refine step_pure rfl (pure_extract rfl rfl) ?_
  refine step_pure rfl (pure_extract rfl rfl) ?_
  refine step_pure rfl (pure_assign rfl) ?_
  refine step_pure rfl (pure_assign rfl) ?_
  refine Vc.step_end (fun a w ok => ?_)
  first | (refine WPs.run ?_ a w ok; clear ok w a) | skip
  repeat refine s_seqs ?_
  refine s_meet [(1, .slice base1 b.length cap1), (2, .pointer (some ⟨b2, 0, none⟩)), (5, .bool true), (15, .bool true)] [⟨b2, [.int .i64 p.side, .int .i64 p.num, .slice fb p.fs.length fc], 24⟩] ?_ (fun a w ok => WPs.run ?_ a w ok)
  · cases hr : pRd b with
    | none =>
      obtain ⟨h1, h2⟩ := pG_none hr
      rw [h1, h2]
      repeat refine c_seq ?_
      refine c_region ?_
      refine step_pure rfl (pure_move rfl) ?_
      refine step_pure rfl (pure_neq rfl rfl) ?_
      refine step_pure rfl (pure_move rfl) ?_
      refine step_pure rfl (pure_fieldAddr rfl rfl rfl rfl rfl (by decide)) ?_
      first | refine step_pure rfl (pure_load (i := 0) rfl rfl rfl rfl rfl rfl) ?_ | refine step_pure rfl (pure_load (i := 1) rfl rfl rfl rfl rfl rfl) ?_ | refine step_pure rfl (pure_load (i := 2) rfl rfl rfl rfl rfl rfl) ?_ | refine step_pure rfl (pure_load (i := 3) rfl rfl rfl rfl rfl rfl) ?_ | refine step_pure rfl (pure_load (i := 4) rfl rfl rfl rfl rfl rfl) ?_ | refine step_pure rfl (pure_load (i := 5) rfl rfl rfl rfl rfl rfl) ?_
      refine step_pure rfl (pure_len_slice rfl rfl rfl) ?_
      refine step_pure rfl (pure_eql rfl rfl) ?_
      refine step_pure rfl (pure_pick_yes rfl rfl) ?_
      refine step_pure rfl (pure_move rfl) ?_
      refine step_pass rfl rfl rfl ?_
      refine step_pass rfl rfl rfl ?_
      refine step_pass rfl rfl rfl ?_
      refine step_pass rfl rfl rfl ?_
      refine step_pass rfl rfl rfl ?_
      refine step_pass rfl rfl rfl ?_
      refine step_pass rfl rfl rfl ?_
      refine step_pass rfl rfl rfl ?_
      refine step_pass rfl rfl rfl ?_
      refine step_pure rfl (pure_pick_yes rfl rfl) ?_
      refine step_pure rfl (pure_assign rfl) ?_
      refine step_nil ?_
      exact less_sub ⟨rfl, rfl, rfl, rfl, trivial⟩ (by repeat (first | exact List.Sublist.refl _ | exact List.nil_sublist _ | apply List.Sublist.cons_cons | apply List.Sublist.cons))
    | some q =>
      obtain ⟨h1, h2⟩ := pG_some hr
      obtain ⟨h3, h4, h5⟩ := pRd_in hb hr
      rw [h1, h4] at hw13
      rw [h1, h2, pE_yes h3]
      repeat refine c_seq ?_
      refine c_region ?_
      refine step_pure rfl (pure_move rfl) ?_
      refine step_pure rfl (pure_neq rfl rfl) ?_
      refine step_pure rfl (pure_move rfl) ?_
      refine step_pass rfl rfl rfl ?_
      refine step_pass rfl rfl rfl ?_
      refine step_pass rfl rfl rfl ?_
      refine step_pass rfl rfl rfl ?_
      refine step_pure rfl (pure_pick_no rfl rfl) ?_
      refine step_pure rfl (pure_move rfl) ?_
      refine step_pure rfl (pure_move rfl) ?_
      refine step_pure rfl (pure_eql rfl rfl) ?_
      refine step_pure rfl (pure_move rfl) ?_
      refine step_pure rfl (pure_move rfl) ?_
      refine step_pure rfl (pure_cz_string rfl rfl rfl rfl rfl rfl rfl hw13) ?_
      refine step_pure rfl (pure_move rfl) ?_
      refine step_pure rfl (pure_cz_string rfl rfl rfl rfl rfl rfl rfl hu) ?_
      refine step_as rfl (pure_str_eql rfl rfl) (show _ = Value.bool true from by rw [beq_self_eq_true]) ?_
      refine step_pure rfl (pure_pick_yes rfl rfl) ?_
      refine step_pure rfl (pure_pick_no rfl rfl) ?_
      refine step_pure rfl (pure_assign rfl) ?_
      refine step_nil ?_
      exact less_sub ⟨rfl, rfl, rfl, rfl, trivial⟩ (by repeat (first | exact List.Sublist.refl _ | exact List.nil_sublist _ | apply List.Sublist.cons_cons | apply List.Sublist.cons))
  clear hw13 hgb hgk hgbig
  repeat refine s_seqs ?_
  refine s_reg ?_
  refine step_pure rfl (pure_fieldAddr rfl rfl rfl rfl rfl (by decide)) ?_
  first | refine step_pure rfl (pure_load (i := 0) rfl rfl rfl rfl rfl rfl) ?_ | refine step_pure rfl (pure_load (i := 1) rfl rfl rfl rfl rfl rfl) ?_ | refine step_pure rfl (pure_load (i := 2) rfl rfl rfl rfl rfl rfl) ?_ | refine step_pure rfl (pure_load (i := 3) rfl rfl rfl rfl rfl rfl) ?_ | refine step_pure rfl (pure_load (i := 4) rfl rfl rfl rfl rfl rfl) ?_ | refine step_pure rfl (pure_load (i := 5) rfl rfl rfl rfl rfl rfl) ?_
  refine step_pure rfl (pure_fieldAddr rfl rfl rfl rfl rfl (by decide)) ?_
  first | refine step_pure rfl (pure_load (i := 0) rfl rfl rfl rfl rfl rfl) ?_ | refine step_pure rfl (pure_load (i := 1) rfl rfl rfl rfl rfl rfl) ?_ | refine step_pure rfl (pure_load (i := 2) rfl rfl rfl rfl rfl rfl) ?_ | refine step_pure rfl (pure_load (i := 3) rfl rfl rfl rfl rfl rfl) ?_ | refine step_pure rfl (pure_load (i := 4) rfl rfl rfl rfl rfl rfl) ?_ | refine step_pure rfl (pure_load (i := 5) rfl rfl rfl rfl rfl rfl) ?_
  refine step_givesP on.sc rfl fun14 rfl (fun w' Z' hh kp hZ hC => hdR_of (head_any p.side p.num w') hZ) ?_
  rintro u E6 g ⟨v16, rfl, hw16⟩
  replace on := on.next g
  replace hu := hu.mono g.cz
  clear g
  refine step_pure rfl (pure_move rfl) ?_
  refine step_pure rfl (pure_extract rfl rfl) ?_
  refine step_pure rfl (pure_extract rfl rfl) ?_
  refine step_pure rfl (pure_assign rfl) ?_
  refine step_pure rfl (pure_assign rfl) ?_
  refine Vc.step_end (fun a w ok => ?_)
  first | (refine WPs.run ?_ a w ok; clear ok w a) | skip
  obtain ⟨base16, cap16, rfl, hcap16⟩ := slc_str hw16
  have hhl := hB_len p.side p.num
  have hv8 := vsize_cases p.num
  have hdl : (hdB p.side p.num).length ≤ 9 := by
    unfold hdB
    split
    · rw [hhl]; omega
    · exact Nat.zero_le _
  have hbb : Bytes (hdB p.side p.num ++ b) := fun x hx => (List.mem_append.1 hx).elim (fun h => by
    unfold hdB at h
    split at h
    · rename_i hk; exact hB_bytes hk x h
    · cases h) (hb x)
  have hhv : HdV (hdB p.side p.num ++ b) = .tuple #[.int .i64 (hdS (hdB p.side p.num ++ b)), .int .i64 (hdN (hdB p.side p.num ++ b)), .int .i64 (hdK (hdB p.side p.num ++ b)), .int .i64 (hdX (hdB p.side p.num ++ b))] := rfl
  repeat refine s_seqs ?_
  refine s_reg ?_
  refine step_buildSlice0 rfl rfl rfl rfl (fun b103 => ?_)
  refine step_pure rfl (pure_move rfl) ?_
  refine step_app8 (L := []) 0 rfl rfl (sl_empty ty5 5 b103) rfl (SlC.mono hw16 Cz.cel) rfl (by omega) (fun base9 cap9 e9 hs9 => ?_)
  rw [List.nil_append, Nat.zero_add] at hs9
  rw [Nat.zero_add]
  refine step_pure rfl (pure_move rfl) ?_
  refine step_app8 0 rfl rfl hs9 rfl (SlC.mono hu Cz.cel) rfl (by omega) (fun base10 cap10 e10 hs10 => ?_)
  rw [← List.length_append] at hs10 ⊢
  refine step_gives rfl fun22 rfl (fun w' hh kp => headed_any (hdB p.side p.num ++ b) _ w' (slis_mem hs10 (fun _ => .head _) hh).slv hbb (by rw [List.length_append]; omega)) ?_
  rw [hhv]
  refine step_pure rfl (pure_move rfl) ?_
  refine step_pure rfl (pure_extract rfl rfl) ?_
  refine step_pure rfl (pure_extract rfl rfl) ?_
  refine step_pure rfl (pure_extract rfl rfl) ?_
  refine step_pure rfl (pure_extract rfl rfl) ?_
  refine step_pure rfl (pure_assign rfl) ?_
  refine step_pure rfl (pure_assign rfl) ?_
  refine step_pure rfl (pure_assign rfl) ?_
  refine step_pure rfl (pure_assign rfl) ?_
  refine Vc.step_end (fun a w ok => ?_)
  first | (refine WPs.run ?_ a w ok; clear ok w a) | skip
  cases hok : hOk p.side p.num with
  | false =>
    obtain ⟨h1, h2⟩ := hd_no hok
    rw [h2]
    repeat refine s_seqs ?_
    refine s_reg ?_
    refine step_pure rfl (pure_move rfl) ?_
    refine step_pure rfl (pure_move rfl) ?_
    refine step_pure rfl (pure_move rfl) ?_
    refine step_pure rfl (pure_pick_yes rfl rfl) ?_
    refine step_pure rfl (pure_move rfl) ?_
    refine step_pure rfl (pure_move rfl) ?_
    refine step_pure rfl (pure_neq rfl rfl) ?_
    refine step_pure rfl (pure_move rfl) ?_
    refine step_pass rfl rfl rfl ?_
    refine step_pass rfl rfl rfl ?_
    refine step_pass rfl rfl rfl ?_
    refine step_pass rfl rfl rfl ?_
    refine step_pass rfl rfl rfl ?_
    refine step_pass rfl rfl rfl ?_
    refine step_pass rfl rfl rfl ?_
    refine step_pass rfl rfl rfl ?_
    refine step_pass rfl rfl rfl ?_
    refine step_pass rfl rfl rfl ?_
    refine step_pass rfl rfl rfl ?_
    refine step_pass rfl rfl rfl ?_
    refine step_pass rfl rfl rfl ?_
    refine step_pass rfl rfl rfl ?_
    refine step_pass rfl rfl rfl ?_
    refine step_pass rfl rfl rfl ?_
    refine step_pass rfl rfl rfl ?_
    refine step_pass rfl rfl rfl ?_
    refine step_pass rfl rfl rfl ?_
    refine step_pass rfl rfl rfl ?_
    refine step_pure rfl (pure_pick_yes rfl rfl) ?_
    refine step_pure rfl (pure_pick_yes rfl rfl) ?_
    refine step_pure rfl (pure_assign rfl) ?_
    refine Vc.step_end (fun a w ok => ?_)
    first | (refine WPs.run ?_ a w ok; clear ok w a) | skip
    exact s_ret fun a w ok => ends_k on (.inr rfl) ok (res_tmp Try.results6 rfl)
  | true =>
    obtain ⟨h1, h2⟩ := hd_yes hok
    have hdd := hdd_hB hok b
    rw [h1, h2]
    rw [show hdS (hB p.side p.num ++ b) = p.side by unfold hdS; rw [hdd]; rfl, show hdN (hB p.side p.num ++ b) = p.num by unfold hdN; rw [hdd]; rfl, show hdK (hB p.side p.num ++ b) = (hB p.side p.num).length by unfold hdK; rw [hdd]; rfl, show hdX (hB p.side p.num ++ b) = 0 by unfold hdX; rw [hdd]; rfl]
    repeat refine s_seqs ?_
    refine s_reg ?_
    refine step_pure rfl (pure_move rfl) ?_
    refine step_pure rfl (pure_move rfl) ?_
    refine step_pure rfl (pure_move rfl) ?_
    refine step_pure rfl (pure_pick_yes rfl rfl) ?_
    refine step_pure rfl (pure_move rfl) ?_
    refine step_pure rfl (pure_move rfl) ?_
    refine step_pure rfl (pure_neq rfl rfl) ?_
    refine step_pure rfl (pure_move rfl) ?_
    refine step_pure rfl (pure_move rfl) ?_
    refine step_pure rfl (pure_eql rfl rfl) ?_
    refine step_pure rfl (pure_move rfl) ?_
    refine step_pure rfl (pure_move rfl) ?_
    refine step_pure rfl (pure_fieldAddr rfl rfl rfl rfl rfl (by decide)) ?_
    first | refine step_pure rfl (pure_load (i := 0) rfl rfl rfl rfl rfl rfl) ?_ | refine step_pure rfl (pure_load (i := 1) rfl rfl rfl rfl rfl rfl) ?_ | refine step_pure rfl (pure_load (i := 2) rfl rfl rfl rfl rfl rfl) ?_ | refine step_pure rfl (pure_load (i := 3) rfl rfl rfl rfl rfl rfl) ?_ | refine step_pure rfl (pure_load (i := 4) rfl rfl rfl rfl rfl rfl) ?_ | refine step_pure rfl (pure_load (i := 5) rfl rfl rfl rfl rfl rfl) ?_
    refine step_as rfl (pure_eql rfl rfl) (show _ = Value.bool true from by rw [beq_self_eq_true]) ?_
    refine step_pure rfl (pure_pick_yes rfl rfl) ?_
    refine step_pure rfl (pure_move rfl) ?_
    refine step_pure rfl (pure_move rfl) ?_
    refine step_pure rfl (pure_fieldAddr rfl rfl rfl rfl rfl (by decide)) ?_
    first | refine step_pure rfl (pure_load (i := 0) rfl rfl rfl rfl rfl rfl) ?_ | refine step_pure rfl (pure_load (i := 1) rfl rfl rfl rfl rfl rfl) ?_ | refine step_pure rfl (pure_load (i := 2) rfl rfl rfl rfl rfl rfl) ?_ | refine step_pure rfl (pure_load (i := 3) rfl rfl rfl rfl rfl rfl) ?_ | refine step_pure rfl (pure_load (i := 4) rfl rfl rfl rfl rfl rfl) ?_ | refine step_pure rfl (pure_load (i := 5) rfl rfl rfl rfl rfl rfl) ?_
    refine step_as rfl (pure_eql rfl rfl) (show _ = Value.bool true from by rw [beq_self_eq_true]) ?_
    refine step_pure rfl (pure_pick_yes rfl rfl) ?_
    refine step_pure rfl (pure_move rfl) ?_
    refine step_pure rfl (pure_move rfl) ?_
    refine step_pure rfl (pure_move rfl) ?_
    refine step_pure rfl (pure_len_slice rfl rfl rfl) ?_
    refine step_as rfl (pure_eql rfl rfl) (show _ = Value.bool true from by rw [beq_self_eq_true]) ?_
    refine step_pure rfl (pure_pick_yes rfl rfl) ?_
    refine step_pure rfl (pure_pick_no rfl rfl) ?_
    refine step_pure rfl (pure_pick_yes rfl rfl) ?_
    refine step_pure rfl (pure_assign rfl) ?_
    refine Vc.step_end (fun a w ok => ?_)
    first | (refine WPs.run ?_ a w ok; clear ok w a) | skip
    exact s_ret fun a w ok => ends_k on (.inr rfl) ok (res_tmp Try.results6 rfl)
end Go.Proofs.Ytajcfafamdacdaa
