/- A packet's bytes: Write and Check, the document's too, walked. -/
import Derived.Test.YtajcfafamdacdaaP1
namespace Go.Proofs.Ytajcfafamdacdaa
open Go.RowKit Go.Vc
set_option linter.unusedVariables false

/-- A packet's cells. -/
def PkC (C : Addr → Value → Prop) (p : Pk) (cs : List Value) : Prop := ∃ fv, cs = [.int .i64 p.side, .int .i64 p.num, fv] ∧ FrsC C fv p.fs
theorem PkC.mono {C C' : Addr → Value → Prop} {p : Pk} {cs : List Value} (h : PkC C p cs) (hC : ∀ a x, C a x → C' a x) : PkC C' p cs := by
  obtain ⟨fv, rfl, h⟩ := h
  exact ⟨fv, rfl, h.mono hC⟩
def pE (p : Pk) : Int := if pOk p = true then 0 else 30
def PwR (p : Pk) (u : Value) (C : Addr → Value → Prop) : Prop := ∃ v, u = .tuple #[v, .int .i64 (pE p)] ∧ SlC C 1 v (pB p).length (row (pB p))
theorem pwR_mono (p : Pk) : ∀ v (C C' : Addr → Value → Prop), (∀ a x, C a x → C' a x) → PwR p v C → PwR p v C' := by
  rintro u C C' hC ⟨v, rfl, hs⟩
  exact ⟨v, rfl, hs.mono hC⟩
theorem pwR_no {p : Pk} {C : Addr → Value → Prop} (h : pOk p = false) : PwR p (.tuple #[.slice none 0 0, .int .i64 30]) C := by
  refine ⟨_, by unfold pE; rw [if_neg (by rw [h]; decide)], ?_⟩
  unfold pB
  rw [if_neg (by rw [h]; decide)]
  exact slc_nil
theorem pE_yes {p : Pk} (h : pOk p = true) : pE p = 0 := by unfold pE; rw [if_pos h]
theorem pE_no {p : Pk} (h : pOk p = false) : pE p = 30 := by unfold pE; rw [h]; rfl
theorem pE_is (p : Pk) : (pE p == 0) = pOk p := by unfold pE; cases pOk p <;> rfl
theorem pOk_of {p : Pk} (h1 : hOk p.side p.num = true) (h2 : wrOk p.fs = true) (h3 : p.fs.length ≠ 0) : pOk p = true := by
  unfold pOk
  rw [h1, h2]
  simpa using h3
theorem pB_yes {p : Pk} (h : pOk p = true) : pB p = hB p.side p.num ++ wBs p.fs := if_pos h

set_option maxHeartbeats 1000000 in
theorem pwrite_P (p : Pk) (cs : List Value) (w : World) {Z : Nat → Prop} (hZ : ∀ b, w.heap.size ≤ b → Z b) (hp : PkC (At w) p cs) (hbig : ∀ f ∈ p.fs, f.data.length ≤ maxLen) : GivesP tb 12 [.agg cs.toArray] w Z (PwR p) := by
  obtain ⟨fv, rfl, hv⟩ := hp
  have hv : FrsC (Cel ⟨w, [], []⟩) fv p.fs := hv.mono fun p x h => ⟨h, by simp⟩
  obtain ⟨fb, fc, rfl, hfc⟩ := hv.slice
  refine givesP_of (fn := Try.f12) Try.func12 rfl Try.ntmps12 rfl hZ (pwR_mono p) (fun on => ?_)
  repeat refine s_seqs ?_
  refine s_reg ?_
  refine step_box_agg rfl rfl (fun b1 => ?_)
  refine step_pure rfl (pure_assign rfl) ?_
  refine step_pure rfl (pure_assign rfl) ?_
  refine Vc.step_end (fun a w ok => ?_)
  first | (refine WPs.run ?_ a w ok; clear ok w a) | skip
  repeat refine s_seqs ?_
  refine s_reg ?_
  refine step_pure rfl (pure_fieldAddr rfl rfl rfl rfl rfl (by decide)) ?_
  first | refine step_pure rfl (pure_load (i := 0) rfl rfl rfl rfl rfl rfl) ?_ | refine step_pure rfl (pure_load (i := 1) rfl rfl rfl rfl rfl rfl) ?_ | refine step_pure rfl (pure_load (i := 2) rfl rfl rfl rfl rfl rfl) ?_ | refine step_pure rfl (pure_load (i := 3) rfl rfl rfl rfl rfl rfl) ?_ | refine step_pure rfl (pure_load (i := 4) rfl rfl rfl rfl rfl rfl) ?_ | refine step_pure rfl (pure_load (i := 5) rfl rfl rfl rfl rfl rfl) ?_
  refine step_pure rfl (pure_fieldAddr rfl rfl rfl rfl rfl (by decide)) ?_
  first | refine step_pure rfl (pure_load (i := 0) rfl rfl rfl rfl rfl rfl) ?_ | refine step_pure rfl (pure_load (i := 1) rfl rfl rfl rfl rfl rfl) ?_ | refine step_pure rfl (pure_load (i := 2) rfl rfl rfl rfl rfl rfl) ?_ | refine step_pure rfl (pure_load (i := 3) rfl rfl rfl rfl rfl rfl) ?_ | refine step_pure rfl (pure_load (i := 4) rfl rfl rfl rfl rfl rfl) ?_ | refine step_pure rfl (pure_load (i := 5) rfl rfl rfl rfl rfl rfl) ?_
  refine step_makes rfl fun14 rfl (fun w' hh kp => head_any p.side p.num w') ?_
  rintro u m' ⟨base2, len2, cap2, e2, rfl, rfl, hs2⟩
  refine step_pure rfl (pure_move rfl) ?_
  refine step_pure rfl (pure_extract rfl rfl) ?_
  refine step_pure rfl (pure_extract rfl rfl) ?_
  refine step_pure rfl (pure_assign rfl) ?_
  refine step_pure rfl (pure_assign rfl) ?_
  refine Vc.step_end (fun a w ok => ?_)
  first | (refine WPs.run ?_ a w ok; clear ok w a) | skip
  obtain rfl := sl_len8 hs2
  repeat refine s_seqs ?_
  refine s_meet [(1, .pointer (some ⟨b1, 0, none⟩)), (4, .slice base2 (hdB p.side p.num).length cap2), (22, .bool (!(hOk p.side p.num && p.fs.length != 0)))] [e2, ⟨b1, [.int .i64 p.side, .int .i64 p.num, .slice fb p.fs.length fc], 24⟩] ?_ (fun a w ok => WPs.run ?_ a w ok)
  · clear hs2 hv hbig
    unfold hdE
    generalize hOk p.side p.num = hk at *
    generalize p.fs.length = n at *
    repeat refine c_seq ?_
    refine c_region ?_
    refine step_pure rfl (pure_move rfl) ?_
    refine step_pure rfl (pure_neq rfl rfl) ?_
    refine step_pure rfl (pure_move rfl) ?_
    refine step_split (t := 17) rfl (fun h17 => ?_) (fun h17 => ?_)
    · refine step_pass rfl rfl rfl ?_
      refine step_pass rfl rfl rfl ?_
      refine step_pass rfl rfl rfl ?_
      refine step_pass rfl rfl rfl ?_
      refine step_pure rfl (pure_pick_yes rfl rfl) ?_
      refine step_nil ?_
      refine less_sub ⟨rfl, rfl, ?_, trivial⟩ (by repeat (first | exact List.Sublist.refl _ | exact List.nil_sublist _ | apply List.Sublist.cons_cons | apply List.Sublist.cons))
      refine congrArg some (congrArg Value.bool ?_)
      rw [Bool.eq_iff_iff]
      cases hk <;> simp_all
    · refine step_pure rfl (pure_fieldAddr rfl rfl rfl rfl rfl (by decide)) ?_
      first | refine step_pure rfl (pure_load (i := 0) rfl rfl rfl rfl rfl rfl) ?_ | refine step_pure rfl (pure_load (i := 1) rfl rfl rfl rfl rfl rfl) ?_ | refine step_pure rfl (pure_load (i := 2) rfl rfl rfl rfl rfl rfl) ?_ | refine step_pure rfl (pure_load (i := 3) rfl rfl rfl rfl rfl rfl) ?_ | refine step_pure rfl (pure_load (i := 4) rfl rfl rfl rfl rfl rfl) ?_ | refine step_pure rfl (pure_load (i := 5) rfl rfl rfl rfl rfl rfl) ?_
      refine step_pure rfl (pure_len_slice rfl rfl rfl) ?_
      refine step_pure rfl (pure_eql rfl rfl) ?_
      refine step_pure rfl (pure_pick_no rfl rfl) ?_
      refine step_nil ?_
      refine less_sub ⟨rfl, rfl, ?_, trivial⟩ (by repeat (first | exact List.Sublist.refl _ | exact List.nil_sublist _ | apply List.Sublist.cons_cons | apply List.Sublist.cons))
      refine congrArg some (congrArg Value.bool ?_)
      rw [Bool.eq_iff_iff]
      cases hk <;> simp_all
  repeat refine s_seqs ?_
  refine s_cond rfl (fun h => ?_) (fun h => ?_)
  · have hno : pOk p = false := by
      unfold pOk
      simp at h
      rcases h with h | h <;> simp [h]
    repeat refine s_seqs ?_
    refine s_reg ?_
    refine step_pure rfl (pure_assign rfl) ?_
    refine step_pure rfl (pure_assign rfl) ?_
    refine Vc.step_end (fun a w ok => ?_)
    first | (refine WPs.run ?_ a w ok; clear ok w a) | skip
    exact s_ret fun a w ok => ends_givesP on (.inr rfl) ok (res_tmp2 Try.results12 rfl rfl) (pwR_mono p) (pwR_no hno)
  have hk : hOk p.side p.num = true ∧ p.fs.length ≠ 0 := by simpa using h
  clear h
  rw [(hd_yes hk.1).1] at hs2
  rw [(hd_yes hk.1).1]
  have hhl := hB_len p.side p.num
  have hv8 := vsize_cases p.num
  have hwl := wBs_le p.fs
  refine s_skip fun a w ok => WPs.run ?_ a w ok
  clear ok w a
  repeat refine s_seqs ?_
  refine s_reg ?_
  refine step_pure rfl (pure_fieldAddr rfl rfl rfl rfl rfl (by decide)) ?_
  first | refine step_pure rfl (pure_load (i := 0) rfl rfl rfl rfl rfl rfl) ?_ | refine step_pure rfl (pure_load (i := 1) rfl rfl rfl rfl rfl rfl) ?_ | refine step_pure rfl (pure_load (i := 2) rfl rfl rfl rfl rfl rfl) ?_ | refine step_pure rfl (pure_load (i := 3) rfl rfl rfl rfl rfl rfl) ?_ | refine step_pure rfl (pure_load (i := 4) rfl rfl rfl rfl rfl rfl) ?_ | refine step_pure rfl (pure_load (i := 5) rfl rfl rfl rfl rfl rfl) ?_
  refine step_givesP on.sc rfl fun28 rfl (fun w' Z' hh kp hZ hC => write_P p.fs _ w' hZ (hv.mono fun p x h => h.now kp) hbig) ?_
  rintro u E1 g ⟨v3, rfl, hw⟩
  replace on := on.next g
  clear g hv
  refine step_pure rfl (pure_move rfl) ?_
  refine step_pure rfl (pure_extract rfl rfl) ?_
  refine step_pure rfl (pure_extract rfl rfl) ?_
  refine step_pure rfl (pure_assign rfl) ?_
  refine step_pure rfl (pure_assign rfl) ?_
  refine Vc.step_end (fun a w ok => ?_)
  first | (refine WPs.run ?_ a w ok; clear ok w a) | skip
  repeat refine s_seqs ?_
  refine s_reg ?_
  refine step_pure rfl (pure_move rfl) ?_
  refine step_pure rfl (pure_neq rfl rfl) ?_
  refine Vc.step_end (fun a w ok => ?_)
  first | (refine WPs.run ?_ a w ok; clear ok w a) | skip
  repeat refine s_seqs ?_
  refine s_cond rfl (fun h => ?_) (fun h => ?_)
  · have hno : pOk p = false := by
      unfold pOk
      cases hk : wrOk p.fs with
      | false => simp
      | true => rw [hk] at h; cases h
    repeat refine s_seqs ?_
    refine s_reg ?_
    refine step_pure rfl (pure_assign rfl) ?_
    refine step_pure rfl (pure_assign rfl) ?_
    refine Vc.step_end (fun a w ok => ?_)
    first | (refine WPs.run ?_ a w ok; clear ok w a) | skip
    exact s_ret fun a w ok => ends_givesP on (.inr rfl) ok (res_tmp2 Try.results12 rfl rfl) (pwR_mono p) (pwR_no hno)
  have hwk : wrOk p.fs = true := by
    cases hk : wrOk p.fs with
    | false => rw [hk] at h; cases h
    | true => rfl
  have hok := pOk_of hk.1 hwk hk.2
  clear h
  refine s_skip fun a w ok => WPs.run ?_ a w ok
  clear ok w a
  repeat refine s_seqs ?_
  refine s_reg ?_
  refine step_pure rfl (pure_move rfl) ?_
  refine step_pure rfl (pure_move rfl) ?_
  refine step_app8 0 rfl rfl hs2 rfl (SlC.mono hw Cz.cel) rfl (by omega) (fun base4 cap4 e4 hs4 => ?_)
  refine step_pure rfl (pure_assign rfl) ?_
  refine step_pure rfl (pure_assign rfl) ?_
  refine Vc.step_end (fun a w ok => ?_)
  first | (refine WPs.run ?_ a w ok; clear ok w a) | skip
  refine s_let 0 rfl (fun E5 g5 hc => ?_)
  refine s_ret fun a w ok => ends_givesP (on.next g5) (.inr rfl) ok (res_tmp2 Try.results12 rfl rfl) (pwR_mono p) ⟨_, by rw [pE_yes hok], ?_⟩
  rw [pB_yes hok, List.length_append]
  exact slis_cz hs4 (hc _ on.sc)

theorem pcheck_any (p : Pk) (cs : List Value) (w : World) (hp : PkC (At w) p cs) (hbig : ∀ f ∈ p.fs, f.data.length ≤ maxLen) : Gives tb 16 [.agg cs.toArray] w (.int .i64 (pE p)) := by
  obtain ⟨fv, rfl, hv⟩ := hp
  have hv : FrsC (Cel ⟨w, [], []⟩) fv p.fs := hv.mono fun p x h => ⟨h, by simp⟩
  obtain ⟨fb, fc, rfl, hfc⟩ := hv.slice
  refine gives_ofk (fn := Try.f16) Try.func16 rfl Try.ntmps16 rfl (fun on => ?_)
  repeat refine s_seqs ?_
  refine s_reg ?_
  refine step_box_agg rfl rfl (fun b1 => ?_)
  refine step_pure rfl (pure_assign rfl) ?_
  refine Vc.step_end (fun a w ok => ?_)
  first | (refine WPs.run ?_ a w ok; clear ok w a) | skip
  repeat refine s_seqs ?_
  refine s_reg ?_
  refine step_pure rfl (pure_load_agg (i := 0) rfl rfl rfl rfl rfl (by show 3 ≤ 3; decide) rfl) ?_
  refine step_givesP on.sc rfl fun12 rfl (fun w' Z' hh kp hZ hC => pwrite_P p _ w' hZ ⟨_, rfl, hv.mono fun p x h => h.now kp⟩ hbig) ?_
  rintro u E1 g ⟨v3, rfl, hw⟩
  replace on := on.next g
  refine step_pure rfl (pure_move rfl) ?_
  refine step_pure rfl (pure_extract rfl rfl) ?_
  refine step_pure rfl (pure_extract rfl rfl) ?_
  refine step_pure rfl (pure_assign rfl) ?_
  refine step_pure rfl (pure_assign rfl) ?_
  refine Vc.step_end (fun a w ok => ?_)
  first | (refine WPs.run ?_ a w ok; clear ok w a) | skip
  repeat refine s_seqs ?_
  refine s_reg ?_
  refine step_pure rfl (pure_move rfl) ?_
  refine step_pure rfl (pure_assign rfl) ?_
  refine Vc.step_end (fun a w ok => ?_)
  first | (refine WPs.run ?_ a w ok; clear ok w a) | skip
  exact s_ret fun a w ok => ends_k on (.inr rfl) ok (res_tmp Try.results16 rfl)

set_option maxHeartbeats 1000000 in
theorem rpcheck_any (p : Pk) (cs : List Value) (w : World) (hp : PkC (At w) p cs) (hbig : ∀ f ∈ p.fs, f.data.length ≤ maxLen) : Gives tb 17 [.agg cs.toArray] w (.int .i64 (pE p)) := by
  obtain ⟨fv, rfl, hv⟩ := hp
  have hv : FrsC (Cel ⟨w, [], []⟩) fv p.fs := hv.mono fun p x h => ⟨h, by simp⟩
  obtain ⟨fb, fc, rfl, hfc⟩ := hv.slice
  refine gives_ofk (fn := Try.f17) Try.func17 rfl Try.ntmps17 rfl (fun on => ?_)
  repeat refine s_seqs ?_
  refine s_reg ?_
  refine step_box_agg rfl rfl (fun b1 => ?_)
  refine step_pure rfl (pure_assign rfl) ?_
  refine Vc.step_end (fun a w ok => ?_)
  first | (refine WPs.run ?_ a w ok; clear ok w a) | skip
  repeat refine s_seqs ?_
  refine s_reg ?_
  refine step_pure rfl (pure_fieldAddr rfl rfl rfl rfl rfl (by decide)) ?_
  first | refine step_pure rfl (pure_load (i := 0) rfl rfl rfl rfl rfl rfl) ?_ | refine step_pure rfl (pure_load (i := 1) rfl rfl rfl rfl rfl rfl) ?_ | refine step_pure rfl (pure_load (i := 2) rfl rfl rfl rfl rfl rfl) ?_ | refine step_pure rfl (pure_load (i := 3) rfl rfl rfl rfl rfl rfl) ?_ | refine step_pure rfl (pure_load (i := 4) rfl rfl rfl rfl rfl rfl) ?_ | refine step_pure rfl (pure_load (i := 5) rfl rfl rfl rfl rfl rfl) ?_
  refine step_pure rfl (pure_fieldAddr rfl rfl rfl rfl rfl (by decide)) ?_
  first | refine step_pure rfl (pure_load (i := 0) rfl rfl rfl rfl rfl rfl) ?_ | refine step_pure rfl (pure_load (i := 1) rfl rfl rfl rfl rfl rfl) ?_ | refine step_pure rfl (pure_load (i := 2) rfl rfl rfl rfl rfl rfl) ?_ | refine step_pure rfl (pure_load (i := 3) rfl rfl rfl rfl rfl rfl) ?_ | refine step_pure rfl (pure_load (i := 4) rfl rfl rfl rfl rfl rfl) ?_ | refine step_pure rfl (pure_load (i := 5) rfl rfl rfl rfl rfl rfl) ?_
  refine step_makes rfl fun15 rfl (fun w' hh kp => rhead_any p.side p.num w') ?_
  rintro u m' ⟨base2, len2, cap2, e2, rfl, rfl, hs2⟩
  refine step_pure rfl (pure_move rfl) ?_
  refine step_pure rfl (pure_extract rfl rfl) ?_
  refine step_pure rfl (pure_extract rfl rfl) ?_
  refine step_pure rfl (pure_assign rfl) ?_
  refine step_pure rfl (pure_assign rfl) ?_
  refine Vc.step_end (fun a w ok => ?_)
  first | (refine WPs.run ?_ a w ok; clear ok w a) | skip
  repeat refine s_seqs ?_
  refine s_reg ?_
  refine step_pure rfl (pure_fieldAddr rfl rfl rfl rfl rfl (by decide)) ?_
  first | refine step_pure rfl (pure_load (i := 0) rfl rfl rfl rfl rfl rfl) ?_ | refine step_pure rfl (pure_load (i := 1) rfl rfl rfl rfl rfl rfl) ?_ | refine step_pure rfl (pure_load (i := 2) rfl rfl rfl rfl rfl rfl) ?_ | refine step_pure rfl (pure_load (i := 3) rfl rfl rfl rfl rfl rfl) ?_ | refine step_pure rfl (pure_load (i := 4) rfl rfl rfl rfl rfl rfl) ?_ | refine step_pure rfl (pure_load (i := 5) rfl rfl rfl rfl rfl rfl) ?_
  refine step_givesP on.sc rfl fun30 rfl (fun w' Z' hh kp hZ hC => rwrite_P p.fs _ w' hZ (hv.mono fun p x h => h.now kp) hbig) ?_
  rintro u E1 g ⟨v3, rfl, hw⟩
  replace on := on.next g
  clear g hv
  refine step_pure rfl (pure_move rfl) ?_
  refine step_pure rfl (pure_extract rfl rfl) ?_
  refine step_pure rfl (pure_extract rfl rfl) ?_
  refine step_pure rfl (pure_assign rfl) ?_
  refine step_pure rfl (pure_assign rfl) ?_
  refine Vc.step_end (fun a w ok => ?_)
  first | (refine WPs.run ?_ a w ok; clear ok w a) | skip
  repeat refine s_seqs ?_
  refine s_meet [(32, .bool (!pOk p))] [] ?_ (fun a w ok => WPs.run ?_ a w ok)
  · clear hs2 hw hbig on
    unfold hdE pOk
    generalize hOk p.side p.num = hk at *
    generalize wrOk p.fs = wk at *
    generalize p.fs.length = n at *
    repeat refine c_seq ?_
    refine c_region ?_
    refine step_pure rfl (pure_move rfl) ?_
    refine step_pure rfl (pure_neq rfl rfl) ?_
    refine step_pure rfl (pure_move rfl) ?_
    refine step_split (t := 23) rfl (fun h23 => ?_) (fun h23 => ?_)
    · refine step_pass rfl rfl rfl ?_
      refine step_pass rfl rfl rfl ?_
      refine step_pure rfl (pure_pick_yes rfl rfl) ?_
      refine step_pure rfl (pure_move rfl) ?_
      refine step_pass rfl rfl rfl ?_
      refine step_pass rfl rfl rfl ?_
      refine step_pass rfl rfl rfl ?_
      refine step_pass rfl rfl rfl ?_
      refine step_pure rfl (pure_pick_yes rfl rfl) ?_
      refine step_nil ?_
      refine less_sub ⟨?_, trivial⟩ (by repeat (first | exact List.Sublist.refl _ | exact List.nil_sublist _ | apply List.Sublist.cons_cons | apply List.Sublist.cons))
      refine congrArg some (congrArg Value.bool ?_)
      rw [Bool.eq_iff_iff]
      cases hk <;> cases wk <;> simp_all
    · refine step_pure rfl (pure_move rfl) ?_
      refine step_pure rfl (pure_neq rfl rfl) ?_
      refine step_pure rfl (pure_pick_no rfl rfl) ?_
      refine step_pure rfl (pure_move rfl) ?_
      refine step_split (t := 27) rfl (fun h27 => ?_) (fun h27 => ?_)
      · refine step_pass rfl rfl rfl ?_
        refine step_pass rfl rfl rfl ?_
        refine step_pass rfl rfl rfl ?_
        refine step_pass rfl rfl rfl ?_
        refine step_pure rfl (pure_pick_yes rfl rfl) ?_
        refine step_nil ?_
        refine less_sub ⟨?_, trivial⟩ (by repeat (first | exact List.Sublist.refl _ | exact List.nil_sublist _ | apply List.Sublist.cons_cons | apply List.Sublist.cons))
        refine congrArg some (congrArg Value.bool ?_)
        rw [Bool.eq_iff_iff]
        cases hk <;> cases wk <;> simp_all
      · refine step_pure rfl (pure_fieldAddr rfl rfl rfl rfl rfl (by decide)) ?_
        first | refine step_pure rfl (pure_load (i := 0) rfl rfl rfl rfl rfl rfl) ?_ | refine step_pure rfl (pure_load (i := 1) rfl rfl rfl rfl rfl rfl) ?_ | refine step_pure rfl (pure_load (i := 2) rfl rfl rfl rfl rfl rfl) ?_ | refine step_pure rfl (pure_load (i := 3) rfl rfl rfl rfl rfl rfl) ?_ | refine step_pure rfl (pure_load (i := 4) rfl rfl rfl rfl rfl rfl) ?_ | refine step_pure rfl (pure_load (i := 5) rfl rfl rfl rfl rfl rfl) ?_
        refine step_pure rfl (pure_len_slice rfl rfl rfl) ?_
        refine step_pure rfl (pure_eql rfl rfl) ?_
        refine step_pure rfl (pure_pick_no rfl rfl) ?_
        refine step_nil ?_
        refine less_sub ⟨?_, trivial⟩ (by repeat (first | exact List.Sublist.refl _ | exact List.nil_sublist _ | apply List.Sublist.cons_cons | apply List.Sublist.cons))
        refine congrArg some (congrArg Value.bool ?_)
        rw [Bool.eq_iff_iff]
        cases hk <;> cases wk <;> simp_all
  repeat refine s_seqs ?_
  refine s_cond rfl (fun h => ?_) (fun h => ?_)
  · rw [pE_no (by simpa using h)]
    repeat refine s_seqs ?_
    refine s_reg ?_
    refine step_pure rfl (pure_assign rfl) ?_
    refine Vc.step_end (fun a w ok => ?_)
    first | (refine WPs.run ?_ a w ok; clear ok w a) | skip
    exact s_ret fun a w ok => ends_k on (.inr rfl) ok (res_tmp Try.results17 rfl)
  · rw [pE_yes (by simpa using h)]
    refine s_skip fun a w ok => WPs.run ?_ a w ok
    clear ok w a
    repeat refine s_seqs ?_
    refine s_reg ?_
    refine step_pure rfl (pure_assign rfl) ?_
    refine Vc.step_end (fun a w ok => ?_)
    first | (refine WPs.run ?_ a w ok; clear ok w a) | skip
    exact s_ret fun a w ok => ends_k on (.inr rfl) ok (res_tmp Try.results17 rfl)

set_option maxHeartbeats 1000000 in
theorem rpwrite_P (p : Pk) (cs : List Value) (w : World) {Z : Nat → Prop} (hZ : ∀ b, w.heap.size ≤ b → Z b) (hp : PkC (At w) p cs) (hbig : ∀ f ∈ p.fs, f.data.length ≤ maxLen) : GivesP tb 13 [.agg cs.toArray] w Z (PwR p) := by
  obtain ⟨fv, rfl, hv⟩ := hp
  have hv : FrsC (Cel ⟨w, [], []⟩) fv p.fs := hv.mono fun p x h => ⟨h, by simp⟩
  obtain ⟨fb, fc, rfl, hfc⟩ := hv.slice
  refine givesP_of (fn := Try.f13) Try.func13 rfl Try.ntmps13 rfl hZ (pwR_mono p) (fun on => ?_)
  repeat refine s_seqs ?_
  refine s_reg ?_
  refine step_box_agg rfl rfl (fun b1 => ?_)
  refine step_pure rfl (pure_assign rfl) ?_
  refine step_pure rfl (pure_assign rfl) ?_
  refine Vc.step_end (fun a w ok => ?_)
  first | (refine WPs.run ?_ a w ok; clear ok w a) | skip
  repeat refine s_seqs ?_
  refine s_reg ?_
  refine step_pure rfl (pure_load_agg (i := 0) rfl rfl rfl rfl rfl (by show 3 ≤ 3; decide) rfl) ?_
  refine step_gives rfl fun17 rfl (fun w' hh kp => rpcheck_any p _ w' ⟨_, rfl, hv.mono fun p x h => h.now kp⟩ hbig) ?_
  refine step_pure rfl (pure_neq rfl rfl) ?_
  refine Vc.step_end (fun a w ok => ?_)
  first | (refine WPs.run ?_ a w ok; clear ok w a) | skip
  repeat refine s_seqs ?_
  refine s_cond rfl (fun h => ?_) (fun h => ?_)
  · have hno : pOk p = false := by
      have := pE_is p
      simp at h
      cases hk : pOk p with
      | false => rfl
      | true => exact absurd (pE_yes hk) h
    repeat refine s_seqs ?_
    refine s_reg ?_
    refine step_pure rfl (pure_assign rfl) ?_
    refine step_pure rfl (pure_assign rfl) ?_
    refine Vc.step_end (fun a w ok => ?_)
    first | (refine WPs.run ?_ a w ok; clear ok w a) | skip
    exact s_ret fun a w ok => ends_givesP on (.inr rfl) ok (res_tmp2 Try.results13 rfl rfl) (pwR_mono p) (pwR_no hno)
  have hok : pOk p = true := by
    simp at h
    rw [← pE_is, h]
    rfl
  clear h
  have hk := pOk_in hok
  have hhl := hB_len p.side p.num
  have hv8 := vsize_cases p.num
  have hwl := wBs_le p.fs
  refine s_skip fun a w ok => WPs.run ?_ a w ok
  clear ok w a
  repeat refine s_seqs ?_
  refine s_reg ?_
  refine step_pure rfl (pure_fieldAddr rfl rfl rfl rfl rfl (by decide)) ?_
  first | refine step_pure rfl (pure_load (i := 0) rfl rfl rfl rfl rfl rfl) ?_ | refine step_pure rfl (pure_load (i := 1) rfl rfl rfl rfl rfl rfl) ?_ | refine step_pure rfl (pure_load (i := 2) rfl rfl rfl rfl rfl rfl) ?_ | refine step_pure rfl (pure_load (i := 3) rfl rfl rfl rfl rfl rfl) ?_ | refine step_pure rfl (pure_load (i := 4) rfl rfl rfl rfl rfl rfl) ?_ | refine step_pure rfl (pure_load (i := 5) rfl rfl rfl rfl rfl rfl) ?_
  refine step_pure rfl (pure_fieldAddr rfl rfl rfl rfl rfl (by decide)) ?_
  first | refine step_pure rfl (pure_load (i := 0) rfl rfl rfl rfl rfl rfl) ?_ | refine step_pure rfl (pure_load (i := 1) rfl rfl rfl rfl rfl rfl) ?_ | refine step_pure rfl (pure_load (i := 2) rfl rfl rfl rfl rfl rfl) ?_ | refine step_pure rfl (pure_load (i := 3) rfl rfl rfl rfl rfl rfl) ?_ | refine step_pure rfl (pure_load (i := 4) rfl rfl rfl rfl rfl rfl) ?_ | refine step_pure rfl (pure_load (i := 5) rfl rfl rfl rfl rfl rfl) ?_
  refine step_makes rfl fun15 rfl (fun w' hh kp => rhead_any p.side p.num w') ?_
  rintro u m' ⟨base2, len2, cap2, e2, rfl, rfl, hs2⟩
  refine step_pure rfl (pure_move rfl) ?_
  refine step_pure rfl (pure_extract rfl rfl) ?_
  refine step_pure rfl (pure_extract rfl rfl) ?_
  refine step_pure rfl (pure_assign rfl) ?_
  refine step_pure rfl (pure_assign rfl) ?_
  refine Vc.step_end (fun a w ok => ?_)
  first | (refine WPs.run ?_ a w ok; clear ok w a) | skip
  repeat refine s_seqs ?_
  refine s_reg ?_
  refine step_pure rfl (pure_fieldAddr rfl rfl rfl rfl rfl (by decide)) ?_
  first | refine step_pure rfl (pure_load (i := 0) rfl rfl rfl rfl rfl rfl) ?_ | refine step_pure rfl (pure_load (i := 1) rfl rfl rfl rfl rfl rfl) ?_ | refine step_pure rfl (pure_load (i := 2) rfl rfl rfl rfl rfl rfl) ?_ | refine step_pure rfl (pure_load (i := 3) rfl rfl rfl rfl rfl rfl) ?_ | refine step_pure rfl (pure_load (i := 4) rfl rfl rfl rfl rfl rfl) ?_ | refine step_pure rfl (pure_load (i := 5) rfl rfl rfl rfl rfl rfl) ?_
  refine step_givesP on.sc rfl fun30 rfl (fun w' Z' hh kp hZ hC => rwrite_P p.fs _ w' hZ (hv.mono fun p x h => h.now kp) hbig) ?_
  rintro u E1 g ⟨v3, rfl, hw⟩
  replace on := on.next g
  clear g hv
  refine step_pure rfl (pure_move rfl) ?_
  refine step_pure rfl (pure_extract rfl rfl) ?_
  refine step_pure rfl (pure_extract rfl rfl) ?_
  refine step_pure rfl (pure_assign rfl) ?_
  refine step_pure rfl (pure_assign rfl) ?_
  refine Vc.step_end (fun a w ok => ?_)
  first | (refine WPs.run ?_ a w ok; clear ok w a) | skip
  rw [(hd_yes hk.1).1] at hs2
  obtain rfl := sl_len8 hs2
  repeat refine s_seqs ?_
  refine s_reg ?_
  refine step_pure rfl (pure_move rfl) ?_
  refine step_pure rfl (pure_move rfl) ?_
  refine step_app8 0 rfl rfl hs2 rfl (SlC.mono hw Cz.cel) rfl (by omega) (fun base4 cap4 e4 hs4 => ?_)
  refine step_pure rfl (pure_assign rfl) ?_
  refine step_pure rfl (pure_assign rfl) ?_
  refine Vc.step_end (fun a w ok => ?_)
  first | (refine WPs.run ?_ a w ok; clear ok w a) | skip
  refine s_let 0 rfl (fun E5 g5 hc => ?_)
  refine s_ret fun a w ok => ends_givesP (on.next g5) (.inr rfl) ok (res_tmp2 Try.results13 rfl rfl) (pwR_mono p) ⟨_, by rw [pE_yes hok], ?_⟩
  rw [pB_yes hok, List.length_append]
  exact slis_cz hs4 (hc _ on.sc)
end Go.Proofs.Ytajcfafamdacdaa
