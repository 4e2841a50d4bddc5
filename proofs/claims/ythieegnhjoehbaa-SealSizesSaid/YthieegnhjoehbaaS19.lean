/- The law SealSizes, walked. -/
import Derived.Test.YthieegnhjoehbaaS17
namespace Go.Proofs.Ythieegnhjoehbaa
open Go.RowKit Go.Vc
set_option linter.unusedVariables false
theorem hdE_def (s n : Int) : hdE s n = if hOk s n = true then 0 else 30 := rfl
set_option maxHeartbeats 2000000 in
theorem sealsizes_any (K : List Int) (p : Pk) (cs : List Value) (w : World) (hK : K.length = 96) (hKb : Bytes K) (hp : PkC (At w) p cs) (hbig : ∀ f ∈ p.fs, f.data.length ≤ maxLen) (hle : p.fs.length ≤ maxLen) :
  Gives tb 7 [.agg (row K).toArray, .agg cs.toArray] w (.bool true) := by
 obtain ⟨fv, rfl, hv⟩ := hp
 replace hv : FrsC (Cz (fun _ => True) ⟨w, [], []⟩) fv p.fs := hv.mono fun p x h => ⟨⟨h, by simp⟩, trivial⟩
 obtain ⟨fb, fc, rfl, hfc⟩ := hv.slice
 refine gives_ofk (fn := Try.f7) Try.func7 rfl Try.ntmps7 rfl (fun on => ?_)
 repeat refine s_seqs ?_
 refine s_reg ?_
 refine step_box_agg rfl rfl (fun b2 => ?_)
 refine step_box_agg rfl rfl (fun b3 => ?_)
 refine qa rfl rfl ?_
 refine Vc.step_end (fun a w ok => ?_)
 first | (refine WPs.run ?_ a w ok; clear ok w a) | skip
 repeat refine s_seqs ?_
 refine s_reg ?_
 refine step_gives rfl fun9 rfl (fun w _ _ => sawake_any w) ?_
 refine qa rfl rfl ?_
 refine Vc.step_end (fun a w ok => ?_)
 first | (refine WPs.run ?_ a w ok; clear ok w a) | skip
 repeat refine s_seqs ?_
 refine s_reg ?_
 refine step_pure rfl (pure_load_agg (i := 0) rfl rfl rfl rfl rfl (by show 3 ≤ 3; decide) rfl) ?_
 refine step_gives rfl fun10 rfl (fun w' hh kp => short_any p _ w' ⟨_, rfl, hv.mono (Cz.now kp)⟩ hbig hle) ?_
 refine step_pure rfl (pure_not rfl) ?_
 refine Vc.step_end (fun a w ok => ?_)
 first | (refine WPs.run ?_ a w ok; clear ok w a) | skip
 repeat refine s_seqs ?_
 refine s_cond rfl (fun h => ?_) (fun h => ?_)
 ·repeat refine s_seqs ?_
  refine s_reg ?_
  refine qm rfl rfl ?_
  refine qa rfl rfl ?_
  refine Vc.step_end (fun a w ok => ?_)
  first | (refine WPs.run ?_ a w ok; clear ok w a) | skip
  exact s_ret fun a w ok => ends_k on (.inr rfl) ok (res_tmp Try.results7 rfl)
 clear h
 refine s_skip fun a w ok => WPs.run ?_ a w ok
 clear ok w a
 repeat refine s_seqs ?_
 refine s_reg ?_
 refine step_pure rfl (pure_load_agg (i := 1) rfl rfl rfl rfl rfl (by show 0 + 96 ≤ (row K).length; rw [row_len, hK]; decide) (ints_whole _ _ 96 hK)) ?_
 refine step_pure rfl (pure_load_agg (i := 0) rfl rfl rfl rfl rfl (by show 3 ≤ 3; decide) rfl) ?_
 refine step_givesP on.sc rfl fun12 rfl (fun w' Z' hh kp hZ hC => seal_P K p _ w' hZ hK hKb ⟨_, rfl, hv.mono (Cz.now kp)⟩ hbig) ?_
 rintro u E1 g ⟨v1, rfl, hw1⟩
 replace on := on.next g
 replace hv := hv.mono g.cz
 clear g
 obtain ⟨base1, cap1, rfl, hcap1⟩ := slc_str hw1
 refine qm rfl rfl ?_
 refine qx rfl rfl rfl ?_
 refine qx rfl rfl rfl ?_
 refine qa rfl rfl ?_
 refine qa rfl rfl ?_
 refine Vc.step_end (fun a w ok => ?_)
 first | (refine WPs.run ?_ a w ok; clear ok w a) | skip
 repeat refine s_seqs ?_
 refine s_reg ?_
 refine step_pure rfl (pure_load_agg (i := 0) rfl rfl rfl rfl rfl (by show 3 ≤ 3; decide) rfl) ?_
 refine step_gives rfl fun15 rfl (fun w' hh kp => ssize_any p _ w' ⟨_, rfl, hv.mono (Cz.now kp)⟩ hbig) ?_
 refine qm rfl rfl ?_
 refine qx rfl rfl rfl ?_
 refine qx rfl rfl rfl ?_
 refine qa rfl rfl ?_
 refine qa rfl rfl ?_
 refine Vc.step_end (fun a w ok => ?_)
 first | (refine WPs.run ?_ a w ok; clear ok w a) | skip
 repeat refine s_seqs ?_
 refine s_reg ?_
 refine step_pure rfl (pure_fieldAddr rfl rfl rfl rfl rfl (by decide)) ?_
 first | refine step_pure rfl (pure_load (i := 0) rfl rfl rfl rfl rfl rfl) ?_ | refine step_pure rfl (pure_load (i := 1) rfl rfl rfl rfl rfl rfl) ?_ | refine step_pure rfl (pure_load (i := 2) rfl rfl rfl rfl rfl rfl) ?_ | refine step_pure rfl (pure_load (i := 3) rfl rfl rfl rfl rfl rfl) ?_ | refine step_pure rfl (pure_load (i := 4) rfl rfl rfl rfl rfl rfl) ?_ | refine step_pure rfl (pure_load (i := 5) rfl rfl rfl rfl rfl rfl) ?_
 refine step_givesP on.sc rfl fun21 rfl (fun w' Z' hh kp hZ hC => write_P p.fs _ w' hZ (hv.mono (Cz.now kp)) hbig) ?_
 rintro u E2 g ⟨v2, rfl, hw2⟩
 replace on := on.next g
 clear g hv hw1
 obtain ⟨base2, cap2, rfl, hcap2⟩ := slc_str hw2
 refine qm rfl rfl ?_
 refine qx rfl rfl rfl ?_
 refine qx rfl rfl rfl ?_
 refine qa rfl rfl ?_
 refine qa rfl rfl ?_
 refine Vc.step_end (fun a w ok => ?_)
 first | (refine WPs.run ?_ a w ok; clear ok w a) | skip
 repeat refine s_seqs ?_
 refine s_reg ?_
 refine step_pure rfl (pure_fieldAddr rfl rfl rfl rfl rfl (by decide)) ?_
 first | refine step_pure rfl (pure_load (i := 0) rfl rfl rfl rfl rfl rfl) ?_ | refine step_pure rfl (pure_load (i := 1) rfl rfl rfl rfl rfl rfl) ?_ | refine step_pure rfl (pure_load (i := 2) rfl rfl rfl rfl rfl rfl) ?_ | refine step_pure rfl (pure_load (i := 3) rfl rfl rfl rfl rfl rfl) ?_ | refine step_pure rfl (pure_load (i := 4) rfl rfl rfl rfl rfl rfl) ?_ | refine step_pure rfl (pure_load (i := 5) rfl rfl rfl rfl rfl rfl) ?_
 refine step_pure rfl (pure_fieldAddr rfl rfl rfl rfl rfl (by decide)) ?_
 first | refine step_pure rfl (pure_load (i := 0) rfl rfl rfl rfl rfl rfl) ?_ | refine step_pure rfl (pure_load (i := 1) rfl rfl rfl rfl rfl rfl) ?_ | refine step_pure rfl (pure_load (i := 2) rfl rfl rfl rfl rfl rfl) ?_ | refine step_pure rfl (pure_load (i := 3) rfl rfl rfl rfl rfl rfl) ?_ | refine step_pure rfl (pure_load (i := 4) rfl rfl rfl rfl rfl rfl) ?_ | refine step_pure rfl (pure_load (i := 5) rfl rfl rfl rfl rfl rfl) ?_
 refine step_makes rfl fun22 rfl (fun w' hh kp => rhead_any p.side p.num w') ?_
 rintro u m' ⟨base3, len3, cap3, e3, rfl, rfl, hs3⟩
 obtain rfl := sl_len8 hs3
 refine qm rfl rfl ?_
 refine qx rfl rfl rfl ?_
 refine qx rfl rfl rfl ?_
 refine qa rfl rfl ?_
 refine qa rfl rfl ?_
 refine Vc.step_end (fun a w ok => ?_)
 first | (refine WPs.run ?_ a w ok; clear ok w a) | skip
 repeat refine s_seqs ?_
 refine s_reg ?_
 refine qm rfl rfl ?_
 refine step_pure rfl (pure_neq rfl rfl) ?_
 refine Vc.step_end (fun a w ok => ?_)
 first | (refine WPs.run ?_ a w ok; clear ok w a) | skip
 clear hw2 hs3
 cases hok : pOk p with
 | false =>
  have hsz : szF p = 0 := by rw [szF_len K, sealB_no K hok]; rfl
  rw [hsz, pE_no hok]
  repeat refine s_seqs ?_
  refine s_cond_yes rfl rfl ?_
  repeat refine s_seqs ?_
  refine s_reg ?_
  refine qm rfl rfl ?_
  refine qm rfl rfl ?_
  refine qm rfl rfl ?_
  refine step_pure rfl (pure_eql rfl rfl) ?_
  refine step_pure rfl (pure_pick_yes rfl rfl) ?_
  refine qm rfl rfl ?_
  refine qm rfl rfl ?_
  refine qm rfl rfl ?_
  refine step_pure rfl (pure_eql rfl rfl) ?_
  refine step_pure rfl (pure_pick_yes rfl rfl) ?_
  refine qa rfl rfl ?_
  refine Vc.step_end (fun a w ok => ?_)
  first | (refine WPs.run ?_ a w ok; clear ok w a) | skip
  exact s_ret fun a w ok => ends_k on (.inr rfl) ok (res_tmp Try.results7 rfl)
 | true =>
  have hpo := pOk_in hok
  have hhB := hd_yes hpo.1
  have hsz : szF p = (((hB p.side p.num).length + (wBs p.fs).length + 16 : Nat) : Int) := by rw [szF_len K, sealB_len K hok, outT_len]
  have hsl : (sealB K p).length = (hB p.side p.num).length + (wBs p.fs).length + 16 := by rw [sealB_len K hok, outT_len]
  rw [hsl, hsz, pE_yes hok, hhB.1, hhB.2, if_pos hpo.2.1]
  repeat refine s_seqs ?_
  refine s_cond_no rfl rfl ?_
  refine s_skip fun a w ok => WPs.run ?_ a w ok
  clear ok w a
  have hl1 := hB_len p.side p.num
  have hv8 := vsize_cases p.num
  have hl2 := wBs_le p.fs
  generalize (hB p.side p.num).length = a1 at *
  generalize (wBs p.fs).length = a2 at *
  repeat refine s_seqs ?_
  refine s_reg ?_
  refine qm rfl rfl ?_
  refine qm rfl rfl ?_
  refine qm rfl rfl ?_
  refine step_pure rfl (pure_eql rfl rfl) ?_
  refine step_pure rfl (pure_pick_yes rfl rfl) ?_
  refine qm rfl rfl ?_
  refine qm rfl rfl ?_
  refine step_pure rfl (pure_eql rfl rfl) ?_
  refine step_pure rfl (pure_pick_yes rfl rfl) ?_
  refine qm rfl rfl ?_
  refine qm rfl rfl ?_
  refine step_pure rfl (pure_eql rfl rfl) ?_
  refine step_pure rfl (pure_pick_yes rfl rfl) ?_
  refine qm rfl rfl ?_
  refine qm rfl rfl ?_
  refine qm rfl rfl ?_
  refine step_pure rfl (pure_len_slice rfl rfl rfl) ?_
  refine step_as rfl (pure_eql rfl rfl) (show _ = Value.bool true from by rw [beq_self_eq_true]) ?_
  refine step_pure rfl (pure_pick_yes rfl rfl) ?_
  refine qm rfl rfl ?_
  refine qm rfl rfl ?_
  refine qm rfl rfl ?_
  refine step_pure rfl (pure_len_slice rfl rfl rfl) ?_
  refine qm rfl rfl ?_
  refine step_pure rfl (pure_len_slice rfl rfl rfl) ?_
  first | refine step_pure rfl (pure_add64 rfl rfl (by omega) (by omega)) ?_ | refine step_pure rfl (pure_add rfl rfl) ?_
  first | refine step_pure rfl (pure_add64 rfl rfl (by omega) (by omega)) ?_ | refine step_pure rfl (pure_add rfl rfl) ?_
  refine step_as rfl (pure_eql rfl rfl) (show _ = Value.bool true from by rw [show (((a1 + a2 + 16 : Nat)) : Int) = (a1 : Int) + a2 + 16 from rfl, beq_self_eq_true]) ?_
  refine step_pure rfl (pure_pick_yes rfl rfl) ?_
  refine qa rfl rfl ?_
  refine Vc.step_end (fun a w ok => ?_)
  first | (refine WPs.run ?_ a w ok; clear ok w a) | skip
  exact s_ret fun a w ok => ends_k on (.inr rfl) ok (res_tmp Try.results7 rfl)
end Go.Proofs.Ythieegnhjoehbaa
