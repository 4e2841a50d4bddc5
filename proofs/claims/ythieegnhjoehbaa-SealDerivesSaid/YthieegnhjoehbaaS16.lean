/- The calls at the head of all laws of seals: walked. -/
import Derived.Test.YthieegnhjoehbaaS15
import Derived.Test.YthieegnhjoehbaaPB
namespace Go.Proofs.Ythieegnhjoehbaa
open Go.RowKit Go.Vc
set_option linter.unusedVariables false
def secB : List Int := [115, 101, 99, 114, 101, 116]
theorem fill6 : fillL (fun i => some (i * ty5.size, ty5.size)) (rowOf [Value.int .u8 0] (6 * ty5.size)) [(0, .int .u8 115), (1, .int .u8 101), (2, .int .u8 99), (3, .int .u8 114), (4, .int .u8 101), (5, .int .u8 116)] = some (row secB) := by kernel_rfl
theorem ping_ok : pOk pingP = true := by decide
theorem ping_data : ∀ f ∈ pingP.fs, Bytes f.data := by intro f hf; simp [pingP] at hf; subst hf; intro x hx; cases hx
theorem sz_ping : szF pingP = 19 := by
 have : ((pB pingP).length : Int) = 3 := by rw [pB_ping]; rfl
 unfold szF
 rw [if_pos ping_ok, this]
 rfl
theorem len_ping (K : List Int) : (sealB K pingP).length = 19 := by
 rw [sealB_len K ping_ok, outT_len]
 decide
theorem tg_nil (K : List Int) (frm : Int) : tgOk K frm [] = false := tgOk_none rfl
set_option maxHeartbeats 4000000 in
theorem sawake_any (w : World) : Gives tb 9 [] w (.bool true) := by
 refine gives_ofk (fn := Try.f9) Try.func9 rfl Try.ntmps9 rfl (fun on => ?_)
 have hKl := derK_len secB
 have hKb := derK_bytes secB
 repeat refine s_seqs ?_
 refine s_reg ?_
 refine qa rfl rfl ?_
 refine Vc.step_end (fun a w ok => ?_)
 (refine WPs.run ?_ a w ok; clear ok w a)
 repeat refine s_seqs ?_
 refine s_reg ?_
 refine step_buildSlice rfl rfl rfl rfl elem5 (by decide) (by decide) fill6 (fun b14 => ?_)
 refine step_mark 0 rfl rfl rfl rfl rfl rfl rfl rfl (by intro h; cases h) (fun E1 g hc => ?_)
 have hsec := slis_cz (sl_built ty5 5 b14 (row secB) 6 rfl) (hc _ on.sc)
 replace on := on.next g
 clear g hc
 refine step_gives rfl fun11 rfl (fun w' hh kp => derive_any secB _ w' (hsec.mono (Cz.now kp)) (by intro x hx; simp [secB] at hx; omega) (by decide)) ?_
 refine step_alloc rfl zero33 (fun b1 => ?_)
 refine step_store_agg 0 rfl rfl rfl (row_one _) rfl (by rw [row_len]; exact hKl) rfl rfl (Nat.le_of_ble_eq_true rfl) (splice_all (by rw [row_len, hKl]; rfl)) ?_
 refine Vc.step_end (fun a w ok => ?_)
 (refine WPs.run ?_ a w ok; clear ok w a)
 clear hsec
 generalize derK secB = K at *
 have hso := seal_open K K ping_ok ping_data rfl rfl
 obtain ⟨hx1, hg1⟩ := opX_ok hso
 have hx0 := seal_other K K 0 ping_ok (by decide)
 have hxn := opX_no (tg_nil K 1)
 have hsl := len_ping K
 have hsb := sealB_bytes (K := K) (p := pingP)
 replace hx1 : opX K 1 (sealB K pingP) = 0 := hx1
 replace hg1 : opG K 1 (sealB K pingP) = pingP := hg1
 repeat refine s_seqs ?_
 refine s_reg ?_
 refine step_pure rfl (pure_build_struct (pl := [(0, 1), (1, 1), (2, 1), (3, 1), (4, 1)]) rfl zero59 rfl rfl rfl rfl) ?_
 refine step_buildSlice rfl rfl rfl rfl elem59 (by decide) (by decide) (fill_fr _ _ _ _ _) (fun b18 => ?_)
 refine step_pure rfl (pure_build_struct (pl := [(0, 1), (1, 1), (2, 1)]) rfl zero25 rfl rfl rfl rfl) ?_
 refine step_alloc rfl zero25 (fun b2 => ?_)
 refine step_store_agg 0 rfl rfl rfl (of_one rfl) rfl rfl rfl rfl (Nat.le_of_ble_eq_true rfl) rfl ?_
 refine Vc.step_end (fun a w ok => ?_)
 (refine WPs.run ?_ a w ok; clear ok w a)
 refine s_let 1 rfl (fun E2 g hc => ?_)
 have hp := ping_sl (hc _ on.sc)
 replace on := on.next g
 clear g hc
 repeat refine s_seqs ?_
 refine s_reg ?_
 refine step_pure rfl (pure_load_agg (i := 1) rfl rfl rfl rfl rfl (by show 0 + 96 ≤ (row K).length; rw [row_len, hKl]; decide) (ints_whole _ _ 96 hKl)) ?_
 refine step_pure rfl (pure_load_agg (i := 0) rfl rfl rfl rfl rfl (by show 3 ≤ 3; decide) rfl) ?_
 refine step_givesP on.sc rfl fun12 rfl (fun w' Z' hh kp hZ hC => seal_P K pingP _ w' hZ hKl hKb ⟨_, rfl, hp.mono (Cz.now kp)⟩ ping_big) ?_
 rintro u E3 g ⟨v3, rfl, hw⟩
 replace on := on.next g
 replace hp := hp.mono g.cz
 clear g
 rw [pE_ping]
 refine qm rfl rfl ?_
 refine qx rfl rfl rfl ?_
 refine qx rfl rfl rfl ?_
 refine qa rfl rfl ?_
 refine qa rfl rfl ?_
 refine Vc.step_end (fun a w ok => ?_)
 (refine WPs.run ?_ a w ok; clear ok w a)
 generalize sealB K pingP = B at *
 obtain ⟨base3, cap3, rfl, hcap3⟩ := slc_str hw
 repeat refine s_seqs ?_
 refine s_reg ?_
 refine step_pure rfl (pure_load_agg (i := 0) rfl rfl rfl rfl rfl (by show 3 ≤ 3; decide) rfl) ?_
 refine step_gives rfl fun15 rfl (fun w' hh kp => ssize_any pingP _ w' ⟨_, rfl, hp.mono (Cz.now kp)⟩ ping_big) ?_
 rw [sz_ping, pE_ping]
 refine qm rfl rfl ?_
 refine qx rfl rfl rfl ?_
 refine qx rfl rfl rfl ?_
 refine qa rfl rfl ?_
 refine qa rfl rfl ?_
 refine Vc.step_end (fun a w ok => ?_)
 (refine WPs.run ?_ a w ok; clear ok w a)
 repeat refine s_seqs ?_
 refine s_reg ?_
 refine step_pure rfl (pure_load_agg (i := 1) rfl rfl rfl rfl rfl (by show 0 + 96 ≤ (row K).length; rw [row_len, hKl]; decide) (ints_whole _ _ 96 hKl)) ?_
 refine qm rfl rfl ?_
 refine step_givesP on.sc rfl fun17 rfl (fun w' Z' hh kp hZ hC => open_P K 1 B _ w' hZ hKl hKb (hw.mono (Cz.now kp)) hsb (by omega)) ?_
 rintro u E4 g ⟨v5, rfl, hr⟩
 replace on := on.next g
 replace hp := hp.mono g.cz
 replace hw := hw.mono g.cz
 clear g
 rw [hg1] at hr ⊢
 rw [hx1]
 obtain ⟨base5, cap5, rfl, hcap5⟩ := hr.slice
 refine qm rfl rfl ?_
 refine qx rfl rfl rfl ?_
 refine qx rfl rfl rfl ?_
 refine step_alloc rfl zero25 (fun b7 => ?_)
 refine step_store_agg 0 rfl rfl rfl (of_one rfl) rfl rfl rfl rfl (Nat.le_of_ble_eq_true rfl) rfl ?_
 refine qa rfl rfl ?_
 refine Vc.step_end (fun a w ok => ?_)
 (refine WPs.run ?_ a w ok; clear ok w a)
 repeat refine s_seqs ?_
 refine s_reg ?_
 refine step_pure rfl (pure_load_agg (i := 2) rfl rfl rfl rfl rfl (by show 0 + 96 ≤ (row K).length; rw [row_len, hKl]; decide) (ints_whole _ _ 96 hKl)) ?_
 refine qm rfl rfl ?_
 refine step_givesP on.sc rfl fun17 rfl (fun w' Z' hh kp hZ hC => open_P K 0 B _ w' hZ hKl hKb (hw.mono (Cz.now kp)) hsb (by omega)) ?_
 rintro u E5 g ⟨v6, rfl, hr6⟩
 replace on := on.next g
 replace hp := hp.mono g.cz
 replace hr := hr.mono g.cz
 clear g
 rw [hx0]
 obtain ⟨base6, cap6, rfl, -⟩ := hr6.slice
 refine qm rfl rfl ?_
 refine qx rfl rfl rfl ?_
 refine qx rfl rfl rfl ?_
 refine step_alloc rfl zero25 (fun b9 => ?_)
 refine step_store_agg 0 rfl rfl rfl (of_one rfl) rfl rfl rfl rfl (Nat.le_of_ble_eq_true rfl) rfl ?_
 refine qa rfl rfl ?_
 refine Vc.step_end (fun a w ok => ?_)
 (refine WPs.run ?_ a w ok; clear ok w a)
 repeat refine s_seqs ?_
 refine s_reg ?_
 refine step_pure rfl (pure_load_agg (i := 3) rfl rfl rfl rfl rfl (by show 0 + 96 ≤ (row K).length; rw [row_len, hKl]; decide) (ints_whole _ _ 96 hKl)) ?_
 refine step_givesP on.sc rfl fun17 rfl (fun w' Z' hh kp hZ hC => open_P K 1 [] _ w' hZ hKl hKb slc_nil (by intro x hx; cases hx) (by decide)) ?_
 rintro u E6 g ⟨v7, rfl, hr7⟩
 replace on := on.next g
 replace hp := hp.mono g.cz
 replace hr := hr.mono g.cz
 clear g
 rw [hxn]
 obtain ⟨base7, cap7, rfl, -⟩ := hr7.slice
 refine qm rfl rfl ?_
 refine qx rfl rfl rfl ?_
 refine qx rfl rfl rfl ?_
 refine step_alloc rfl zero25 (fun b11 => ?_)
 refine step_store_agg 0 rfl rfl rfl (of_one rfl) rfl rfl rfl rfl (Nat.le_of_ble_eq_true rfl) rfl ?_
 refine qa rfl rfl ?_
 refine Vc.step_end (fun a w ok => ?_)
 (refine WPs.run ?_ a w ok; clear ok w a)
 repeat refine s_seqs ?_
 refine s_reg ?_
 refine step_pure rfl (pure_load_agg (i := 3) rfl rfl rfl rfl rfl (by show 3 ≤ 3; decide) rfl) ?_
 refine step_pure rfl (pure_load_agg (i := 2) rfl rfl rfl rfl rfl (by show 3 ≤ 3; decide) rfl) ?_
 refine step_gives rfl fun19 rfl (fun w' hh kp => psame_any pingP pingP _ _ w' ⟨_, rfl, hp.mono (Cz.now kp)⟩ ⟨_, rfl, hr.mono (Cz.now kp)⟩ (by intro f hf; simp [pingP] at hf; subst hf; exact Nat.zero_le _) (by decide)) ?_
 rw [ps_ping]
 refine qa rfl rfl ?_
 refine Vc.step_end (fun a w ok => ?_)
 (refine WPs.run ?_ a w ok; clear ok w a)
 rw [hsl]
 repeat refine s_seqs ?_
 refine s_reg ?_
 refine qm rfl rfl ?_
 refine step_pure rfl (pure_len_slice rfl rfl rfl) ?_
 refine step_pure rfl (pure_eql rfl rfl) ?_
 refine qm rfl rfl ?_
 refine qm rfl rfl ?_
 refine step_pure rfl (pure_eql rfl rfl) ?_
 refine step_pure rfl (pure_pick_yes rfl rfl) ?_
 refine qm rfl rfl ?_
 refine qm rfl rfl ?_
 refine step_pure rfl (pure_eql rfl rfl) ?_
 refine step_pure rfl (pure_pick_yes rfl rfl) ?_
 refine qm rfl rfl ?_
 refine qm rfl rfl ?_
 refine step_pure rfl (pure_eql rfl rfl) ?_
 refine step_pure rfl (pure_pick_yes rfl rfl) ?_
 refine qm rfl rfl ?_
 refine qm rfl rfl ?_
 refine step_pure rfl (pure_pick_yes rfl rfl) ?_
 refine qm rfl rfl ?_
 refine qm rfl rfl ?_
 refine step_pure rfl (pure_eql rfl rfl) ?_
 refine step_pure rfl (pure_pick_yes rfl rfl) ?_
 refine qm rfl rfl ?_
 refine qm rfl rfl ?_
 refine step_pure rfl (pure_eql rfl rfl) ?_
 refine step_pure rfl (pure_pick_yes rfl rfl) ?_
 refine qm rfl rfl ?_
 refine qm rfl rfl ?_
 refine step_pure rfl (pure_eql rfl rfl) ?_
 refine step_pure rfl (pure_pick_yes rfl rfl) ?_
 refine qm rfl rfl ?_
 refine step_pure rfl (pure_pick_yes rfl rfl) ?_
 refine qa rfl rfl ?_
 refine Vc.step_end (fun a w ok => ?_)
 (refine WPs.run ?_ a w ok; clear ok w a)
 exact s_ret fun a w ok => ends_k on (.inr rfl) ok (res_tmp Try.results9 rfl)
end Go.Proofs.Ythieegnhjoehbaa
