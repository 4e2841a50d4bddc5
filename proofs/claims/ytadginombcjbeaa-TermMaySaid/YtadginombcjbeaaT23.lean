/- The law TermMay: walked. -/
import Derived.Test.YtadginombcjbeaaT22
namespace Go.Proofs.Ytadginombcjbeaa
open Go.RowKit Go.Vc
set_option linter.unusedVariables false
theorem feed8 {t : Tm} (h : Ac8 t.pa.act) (bs : List Int) : Ac8 (tmFeed t bs).pa.act := (esActs8 _ _ h).2
theorem feed_still {t : Tm} (h : ScOk t.s) (bs : List Int) : Still t.s (tmFeed t bs).s := by
 show Still t.s (tmDoes _ (doF id t.s))
 rw [doF_ok h]
 exact still_does _ h
set_option maxHeartbeats 4000000 in
theorem termmay_any (t : Tm) (cs : List Value) (bs : List Int) (v : Value) (w : World) (hs : ScV (At w) t.s cs) (k1 : t.s.cells.length ≤ maxLen) (k2 : t.s.main.length ≤ maxLen) (h8 : Ac8 t.pa.act)
  (hv : SlC (At w) 1 v bs.length (row bs)) (hle : bs.length ≤ maxLen) :
  Gives tb 3 [.agg (tmL t.ut t.pa cs).toArray, v] w (.bool true) := by
 have hmx : maxLen ≤ 9223372036854775807 := by decide
 replace hs := scv_cz hs
 replace hv : SlC (Cz (fun _ => True) ⟨w, [], []⟩) 1 v bs.length (row bs) := hv.mono fun p x h => ⟨⟨h, by simp⟩, trivial⟩
 obtain ⟨base0, cap0, rfl, _⟩ := slc_sl hv
 obtain ⟨u1, u2, rfl, hq1, hq2⟩ := hs
 obtain ⟨a1, c1, rfl, _⟩ := slc_sl hq1
 obtain ⟨a2, c2, rfl, _⟩ := slc_sl hq2
 have hs : ScV (Cz (fun _ => True) ⟨w, [], []⟩) t.s (scC t.s (.slice a1 t.s.cells.length c1) (.slice a2 t.s.main.length c2)) := ⟨_, _, rfl, hq1, hq2⟩
 clear hq1 hq2
 have hfd := fun (w' : World) (Z' : Nat → Prop) hZ (h : ScV (At w') t.s (scC t.s (.slice a1 t.s.cells.length c1) (.slice a2 t.s.main.length c2))) (hv' : SlC (At w') 1 (.slice base0 bs.length cap0) bs.length (row bs)) (hb : bs.length ≤ 1000) => feed_P t _ bs _ w' (Z := Z') hZ h k1 k2 h8 hv' hb
 have hf8 := feed8 h8 bs
 have hfs := fun h => feed_still (t := t) h bs
 generalize tmFeed t bs = t2 at *
 obtain ⟨ut, ⟨st, ⟨kd, ru, mk, mn, ps⟩⟩, s⟩ := t
 obtain ⟨p0, p1, p2, p3, p4, p5, p6, p7, rfl⟩ := len8 h8
 dsimp only at *
 clear h8
 refine gives_ofk (fn := Try.f3) Try.func3 rfl Try.ntmps3 rfl (fun on => ?_)
 obtain ⟨L, hL⟩ : ∃ L, L = tmL ut ⟨st, ⟨kd, ru, mk, mn, [p0, p1, p2, p3, p4, p5, p6, p7]⟩⟩ (scC s (.slice a1 s.cells.length c1) (.slice a2 s.main.length c2)) := ⟨_, rfl⟩
 have hL2 : L.length = 32 := by rw [hL]; rfl
 have hLs : (L.drop 16).take 16 = scC s (.slice a1 s.cells.length c1) (.slice a2 s.main.length c2) := by rw [hL]; rfl
 have hL18 : L[18]? = some (.slice a1 s.cells.length c1) := by rw [hL]; rfl
 have hL31 : L[31]? = some (.slice a2 s.main.length c2) := by rw [hL]; rfl
 have hLW : L[16]? = some (.int .i64 s.W) := by rw [hL]; rfl
 have hLH : L[17]? = some (.int .i64 s.H) := by rw [hL]; rfl
 have hLo : ∀ v ∈ L, v.oneCell' = true := by rw [hL]; exact tm_one (scv_form hs).2
 rw [← hL] at hfd ⊢
 clear hL
 repeat refine s_seqs ?_
 refine s_reg ?_
 refine step_box_agg rfl rfl (fun b2 => ?_)
 refine qa rfl rfl ?_
 refine Vc.step_end (fun a w ok => ?_)
 first | (refine WPs.run ?_ a w ok; clear ok w a) | skip
 repeat refine s_seqs ?_
 refine s_reg ?_
 refine step_gives rfl fun7 rfl (fun w _ _ => tawake_any w) ?_
 refine qa rfl rfl ?_
 refine Vc.step_end (fun a w ok => ?_)
 first | (refine WPs.run ?_ a w ok; clear ok w a) | skip
 repeat refine s_seqs ?_
 refine s_meet [(1, .slice base0 bs.length cap0), (2, .pointer (some ⟨b2, 0, none⟩)), (4, .bool false), (5, .bool true),
  (32, .bool (((decide ((s.cells.length : Int) > 500) || decide ((s.main.length : Int) > 500)) || decide ((bs.length : Int) > 300)) || !scOk s))] [⟨b2, L, tT⟩] ?_ (fun a w ok => WPs.run ?_ a w ok)
 ·have hck := fun w' (kp : Keep w w' []) => check_any s _ w' (hs.mono (Cz.now kp)) k1 k2
  have hce : ((ckE s) != 0) = !scOk s := by unfold ckE; cases scOk s <;> rfl
  clear hfd hfs
  generalize scOk s = so at *
  obtain ⟨d1, e1⟩ : ∃ d, decide ((s.cells.length : Int) > 500) = d := ⟨_, rfl⟩
  obtain ⟨d2, e2⟩ : ∃ d, decide ((s.main.length : Int) > 500) = d := ⟨_, rfl⟩
  obtain ⟨d3, e3⟩ : ∃ d, decide ((bs.length : Int) > 300) = d := ⟨_, rfl⟩
  rw [e1, e2, e3]
  repeat refine c_seq ?_
  refine c_region ?_
  refine step_pure rfl (pure_fieldAddr rfl rfl rfl rfl rfl (by decide)) ?_
  refine step_pure rfl (pure_fieldAddr rfl rfl rfl rfl rfl (by decide)) ?_
  refine step_pure rfl (pure_load (i := 0) rfl rfl rfl rfl rfl hL18) ?_
  refine step_pure rfl (pure_len_slice rfl rfl rfl) ?_
  refine step_as rfl (pure_gtr rfl rfl) (congrArg Value.bool e1) ?_
  refine qm rfl rfl ?_
  refine step_split (t := 15) rfl (fun h15 => ?_) (fun h15 => ?_)
  ·refine qp rfl rfl rfl ?_
   refine qp rfl rfl rfl ?_
   refine qp rfl rfl rfl ?_
   refine qp rfl rfl rfl ?_
   refine qp rfl rfl rfl ?_
   refine step_pure rfl (pure_pick_yes rfl rfl) ?_
   refine qm rfl rfl ?_
   refine qp rfl rfl rfl ?_
   refine qp rfl rfl rfl ?_
   refine qp rfl rfl rfl ?_
   refine step_pure rfl (pure_pick_yes rfl rfl) ?_
   refine qm rfl rfl ?_
   refine qp rfl rfl rfl ?_
   refine qp rfl rfl rfl ?_
   refine qp rfl rfl rfl ?_
   refine qp rfl rfl rfl ?_
   refine step_pure rfl (pure_pick_yes rfl rfl) ?_
   refine step_nil ?_
   refine less_of ⟨rfl, rfl, rfl, rfl, ?_, trivial⟩ rfl
   refine congrArg some (congrArg Value.bool ?_)
   clear hck hce e1 e2 e3 hs hLs hL18 hL31 hLW hLH hLo hL2
   simp_all
  ·refine step_pure rfl (pure_fieldAddr rfl rfl rfl rfl rfl (by decide)) ?_
   refine step_pure rfl (pure_fieldAddr rfl rfl rfl rfl rfl (by decide)) ?_
   refine step_pure rfl (pure_load (i := 0) rfl rfl rfl rfl rfl hL31) ?_
   refine step_pure rfl (pure_len_slice rfl rfl rfl) ?_
   refine step_as rfl (pure_gtr rfl rfl) (congrArg Value.bool e2) ?_
   refine step_pure rfl (pure_pick_no rfl rfl) ?_
   refine qm rfl rfl ?_
   refine step_split (t := 22) rfl (fun h22 => ?_) (fun h22 => ?_)
   ·refine qp rfl rfl rfl ?_
    refine qp rfl rfl rfl ?_
    refine qp rfl rfl rfl ?_
    refine step_pure rfl (pure_pick_yes rfl rfl) ?_
    refine qm rfl rfl ?_
    refine qp rfl rfl rfl ?_
    refine qp rfl rfl rfl ?_
    refine qp rfl rfl rfl ?_
    refine qp rfl rfl rfl ?_
    refine step_pure rfl (pure_pick_yes rfl rfl) ?_
    refine step_nil ?_
    refine less_of ⟨rfl, rfl, rfl, rfl, ?_, trivial⟩ rfl
    refine congrArg some (congrArg Value.bool ?_)
    clear hck hce e1 e2 e3 hs hLs hL18 hL31 hLW hLH hLo hL2
    simp_all
   ·refine qm rfl rfl ?_
    refine step_pure rfl (pure_len_slice rfl rfl rfl) ?_
    refine step_as rfl (pure_gtr rfl rfl) (congrArg Value.bool e3) ?_
    refine step_pure rfl (pure_pick_no rfl rfl) ?_
    refine qm rfl rfl ?_
    refine step_split (t := 27) rfl (fun h27 => ?_) (fun h27 => ?_)
    ·refine qp rfl rfl rfl ?_
     refine qp rfl rfl rfl ?_
     refine qp rfl rfl rfl ?_
     refine qp rfl rfl rfl ?_
     refine step_pure rfl (pure_pick_yes rfl rfl) ?_
     refine step_nil ?_
     refine less_of ⟨rfl, rfl, rfl, rfl, ?_, trivial⟩ rfl
     refine congrArg some (congrArg Value.bool ?_)
     clear hck hce e1 e2 e3 hs hLs hL18 hL31 hLW hLH hLo hL2
     simp_all
    ·refine step_pure rfl (pure_fieldAddr rfl rfl rfl rfl rfl (by decide)) ?_
     refine step_pure rfl (pure_load_agg (i := 0) (vs := scC s (.slice a1 s.cells.length c1) (.slice a2 s.main.length c2)) rfl rfl rfl rfl rfl (by show 16 + 16 ≤ L.length; omega) hLs) ?_
     refine step_gives rfl fun8 rfl (fun w' hh kp => hck w' kp) ?_
     refine step_as rfl (pure_neq rfl rfl) (congrArg Value.bool hce) ?_
     refine step_pure rfl (pure_pick_no rfl rfl) ?_
     refine step_nil ?_
     refine less_of ⟨rfl, rfl, rfl, rfl, ?_, trivial⟩ rfl
     refine congrArg some (congrArg Value.bool ?_)
     clear hck hce e1 e2 e3 hs hLs hL18 hL31 hLW hLH hLo hL2
     simp_all
 repeat refine s_seqs ?_
 refine s_cond rfl (fun h => ?_) (fun h => ?_)
 ·repeat refine s_seqs ?_
  refine s_reg ?_
  refine qm rfl rfl ?_
  refine qa rfl rfl ?_
  refine Vc.step_end (fun a w ok => ?_)
  first | (refine WPs.run ?_ a w ok; clear ok w a) | skip
  exact s_ret fun a w ok => ends_k on (.inr rfl) ok (res_tmp Try.results3 rfl)
 have ok0 : ScOk s ∧ bs.length ≤ 300 := by
  simp only [Bool.or_eq_false_iff, Bool.not_eq_false', decide_eq_false_iff_not] at h
  exact ⟨(scOk_iff s).1 h.2, by omega⟩
 obtain ⟨ok0, hb300⟩ := ok0
 clear h
 refine s_skip fun a w ok => WPs.run ?_ a w ok
 clear ok w a
 have hst := hfs ok0
 clear hfs
 obtain ⟨k3, k4⟩ := ok_lens hst.ok
 repeat refine s_seqs ?_
 refine s_reg ?_
 refine step_pure rfl (pure_fieldAddr rfl rfl rfl rfl rfl (by decide)) ?_
 refine step_pure rfl (pure_load_agg (i := 0) (vs := scC s (.slice a1 s.cells.length c1) (.slice a2 s.main.length c2)) rfl rfl rfl rfl rfl (by show 16 + 16 ≤ L.length; omega) hLs) ?_
 refine step_givesP on.sc rfl fun9 rfl (fun w' Z' hh kp hZ hC => copy_P s _ w' hZ (hs.mono (Cz.now kp)) k1 k2) ?_
 rw [doF_ok ok0]
 rintro u E1 g ⟨cs1, rfl, hs1⟩
 replace hs1 : ScV _ s cs1 := hs1
 replace on := on.next g
 replace hv := hv.mono g.cz
 replace hs := hs.mono g.cz
 clear g
 obtain ⟨hl1, ho1⟩ := scv_form hs1
 refine step_alloc rfl zero32 (fun b6 => ?_)
 refine step_store_agg 0 rfl rfl rfl ho1 rfl hl1 rfl rfl (Nat.le_of_ble_eq_true rfl) (splice_all hl1) ?_
 refine Vc.step_end (fun a w ok => ?_)
 first | (refine WPs.run ?_ a w ok; clear ok w a) | skip
 repeat refine s_seqs ?_
 refine s_reg ?_
 refine step_pure rfl (pure_load_agg (i := 1) (vs := L) rfl rfl rfl rfl rfl (by show 0 + 32 ≤ L.length; omega) (load_all hL2)) ?_
 refine qm rfl rfl ?_
 refine step_givesP on.sc rfl fun10 rfl (fun w' Z' hh kp hZ hC => hfd w' Z' hZ (hs.mono (Cz.now kp)) (hv.mono (Cz.now kp)) (by omega)) ?_
 rintro u E2 g ⟨cs2, rfl, hs2⟩
 replace on := on.next g
 replace hs1 := hs1.mono g.cz
 replace hs := hs.mono g.cz
 clear g hv hfd
 obtain ⟨hl2, ho2⟩ := scv_form hs2
 refine step_alloc rfl zero34 (fun b7 => ?_)
 refine step_store_agg 0 rfl rfl rfl (tm_one ho2) rfl (tmL_len hf8 hl2) rfl rfl (Nat.le_of_ble_eq_true rfl) (splice_all (tmL_len hf8 hl2)) ?_
 refine Vc.step_end (fun a w ok => ?_)
 first | (refine WPs.run ?_ a w ok; clear ok w a) | skip
 repeat refine s_seqs ?_
 refine s_reg ?_
 refine step_pure rfl (pure_load_agg (i := 1) (vs := cs1) rfl rfl rfl rfl rfl (by show 0 + 16 ≤ cs1.length; omega) (load_all hl1)) ?_
 refine step_pure rfl (pure_fieldAddr rfl rfl rfl rfl rfl (by decide)) ?_
 refine step_pure rfl (pure_load_agg (i := 2) (vs := scC s (.slice a1 s.cells.length c1) (.slice a2 s.main.length c2)) rfl rfl rfl rfl rfl (by show 16 + 16 ≤ L.length; omega) hLs) ?_
 refine step_gives rfl fun11 rfl (fun w' hh kp => same_eq s _ _ w' (hs1.mono (Cz.now kp)) (hs.mono (Cz.now kp)) k1 k2) ?_
 refine qa rfl rfl ?_
 refine Vc.step_end (fun a w ok => ?_)
 first | (refine WPs.run ?_ a w ok; clear ok w a) | skip
 obtain ⟨a3, l3, c3, a4, l4, c4, rfl⟩ := scv_agg hs2
 have hck2 := fun w' (kp : Keep E2.w0 w' E2.ws) => check_any t2.s _ w' (hs2.mono (Cz.now kp)) k3 k4
 have hc0 : ckE t2.s = 0 := by unfold ckE; rw [(scOk_iff _).2 hst.ok]; rfl
 rw [hc0] at hck2
 have hsc : ((tmL t2.ut t2.pa (scC t2.s (.slice a3 l3 c3) (.slice a4 l4 c4))).drop 16).take 16 = scC t2.s (.slice a3 l3 c3) (.slice a4 l4 c4) := by
  show ((paC t2.pa ++ _).drop 13).take 16 = _
  rw [List.drop_left' (pa_len hf8)]
  rfl
 have hat : ∀ k : Nat, k < 16 → (tmL t2.ut t2.pa (scC t2.s (.slice a3 l3 c3) (.slice a4 l4 c4)))[16 + k]? = (scC t2.s (.slice a3 l3 c3) (.slice a4 l4 c4))[k]? := fun k hk => by
  have h1 := congrArg (fun x => x[k]?) hsc
  rw [List.getElem?_take, if_pos hk, List.getElem?_drop] at h1
  exact h1
 have hLen := tmL_len (u := t2.ut) hf8 hl2
 have eW : (t2.s.W == s.W) = true := by rw [hst.w]; exact beq_self_eq_true _
 have eH : (t2.s.H == s.H) = true := by rw [hst.h]; exact beq_self_eq_true _
 repeat refine s_seqs ?_
 refine s_reg ?_
 refine qm rfl rfl ?_
 refine qm rfl rfl ?_
 first | refine step_pure rfl (pure_fieldAddr rfl rfl rfl rfl rfl (by decide)) ?_ | refine qp rfl rfl rfl ?_
 first | refine step_pure rfl (pure_load_agg (i := 0) (vs := scC t2.s (.slice a3 l3 c3) (.slice a4 l4 c4)) rfl rfl rfl rfl rfl (by show 16 + 16 ≤ (tmL _ _ _).length; rw [hLen]; decide) hsc) ?_ | refine qp rfl rfl rfl ?_
 first | refine step_gives rfl fun8 rfl (fun w' hh kp => hck2 w' kp) ?_ | refine qp rfl rfl rfl ?_
 first | refine step_pure rfl (pure_eql rfl rfl) ?_ | refine qp rfl rfl rfl ?_
 first | refine step_pure rfl (pure_pick_yes rfl rfl) ?_ | refine step_pure rfl (pure_pick_no rfl rfl) ?_ | refine step_pure rfl (pure_pick_bool rfl rfl rfl) ?_
 refine qm rfl rfl ?_
 first | refine step_pure rfl (pure_fieldAddr rfl rfl rfl rfl rfl (by decide)) ?_ | refine qp rfl rfl rfl ?_
 first | refine step_pure rfl (pure_fieldAddr rfl rfl rfl rfl rfl (by decide)) ?_ | refine qp rfl rfl rfl ?_
 first | refine step_pure rfl (pure_load (i := 0) rfl rfl rfl rfl rfl (hat 0 (by decide))) ?_ | refine qp rfl rfl rfl ?_
 first | refine step_pure rfl (pure_fieldAddr rfl rfl rfl rfl rfl (by decide)) ?_ | refine qp rfl rfl rfl ?_
 first | refine step_pure rfl (pure_fieldAddr rfl rfl rfl rfl rfl (by decide)) ?_ | refine qp rfl rfl rfl ?_
 first | refine step_pure rfl (pure_load (i := 2) rfl rfl rfl rfl rfl hLW) ?_ | refine qp rfl rfl rfl ?_
 first | refine step_as rfl (pure_eql rfl rfl) (congrArg Value.bool eW) ?_ | refine qp rfl rfl rfl ?_
 first | refine step_pure rfl (pure_pick_yes rfl rfl) ?_ | refine step_pure rfl (pure_pick_no rfl rfl) ?_ | refine step_pure rfl (pure_pick_bool rfl rfl rfl) ?_
 refine qm rfl rfl ?_
 first | refine step_pure rfl (pure_fieldAddr rfl rfl rfl rfl rfl (by decide)) ?_ | refine qp rfl rfl rfl ?_
 first | refine step_pure rfl (pure_fieldAddr rfl rfl rfl rfl rfl (by decide)) ?_ | refine qp rfl rfl rfl ?_
 first | refine step_pure rfl (pure_load (i := 0) rfl rfl rfl rfl rfl (hat 1 (by decide))) ?_ | refine qp rfl rfl rfl ?_
 first | refine step_pure rfl (pure_fieldAddr rfl rfl rfl rfl rfl (by decide)) ?_ | refine qp rfl rfl rfl ?_
 first | refine step_pure rfl (pure_fieldAddr rfl rfl rfl rfl rfl (by decide)) ?_ | refine qp rfl rfl rfl ?_
 first | refine step_pure rfl (pure_load (i := 2) rfl rfl rfl rfl rfl hLH) ?_ | refine qp rfl rfl rfl ?_
 first | refine step_as rfl (pure_eql rfl rfl) (congrArg Value.bool eH) ?_ | refine qp rfl rfl rfl ?_
 first | refine step_pure rfl (pure_pick_yes rfl rfl) ?_ | refine step_pure rfl (pure_pick_no rfl rfl) ?_ | refine step_pure rfl (pure_pick_bool rfl rfl rfl) ?_
 refine qm rfl rfl ?_
 first | refine qm rfl rfl ?_ | refine qp rfl rfl rfl ?_
 first | refine step_pure rfl (pure_pick_yes rfl rfl) ?_ | refine step_pure rfl (pure_pick_no rfl rfl) ?_ | refine step_pure rfl (pure_pick_bool rfl rfl rfl) ?_
 refine qa rfl rfl ?_
 refine Vc.step_end (fun a w ok => ?_)
 first | (refine WPs.run ?_ a w ok; clear ok w a) | skip
 exact s_ret fun a w ok => ends_k on (.inr rfl) ok (res_tmp Try.results3 rfl)
end Go.Proofs.Ytadginombcjbeaa
