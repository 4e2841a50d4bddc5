/- The document's Copy and rows: walked. -/
import Derived.Test.YtbcpgdjhomoghaaG23
namespace Go.Proofs.Ytbcpgdjhomoghaa
open Go.RowKit Go.Vc
set_option linter.unusedVariables false
def RcR (s : Scr) (u : Value) (m1 : Mem) (C : Addr → Value → Prop) : Prop :=
 ∃ base cap a2 l2 k2 e, u = .agg (scC s (.slice base s.cells.length cap) (.slice a2 l2 k2)).toArray ∧ m1 = [e] ∧ SlIs uC tC e base s.cells.length cap (ceR s.cells) ∧ SlC C 2 (.slice a2 l2 k2) s.main.length (ceR s.main)
theorem rcR_mono {s : Scr} : ∀ v m1 (C C' : Addr → Value → Prop), (∀ p x, C p x → C' p x) → RcR s v m1 C → RcR s v m1 C' := by
 rintro v m1 C C' hC ⟨base, cap, a2, l2, k2, e, rfl, rfl, h1, h2⟩
 exact ⟨base, cap, a2, l2, k2, e, rfl, rfl, h1, h2.mono hC⟩
def doI (s : Scr) : Scr := if scOk s = true then s else zScr
theorem doI_yes {s : Scr} (h : ScOk s) : doI s = s := if_pos ((scOk_iff s).2 h)
theorem ok_lens' {s : Scr} (h : ScOk s) : s.cells.length ≤ 4096 ∧ s.main.length ≤ 4096 := by
 obtain ⟨W, q, hw, hq, hw1, hw2, hq1, hq2, hl, hle⟩ := wh_nat h
 refine ⟨by omega, ?_⟩
 have := okCells_len h.main
 split at this
 ·rw [hw, hq, mulN] at this; omega
 ·omega
set_option maxHeartbeats 2000000 in
theorem rcopy_W (s : Scr) (cs : List Value) (w : World) {Z : Nat → Prop} (hZ : ∀ j, w.heap.size ≤ j → Z j) (hs : ScV (At w) s cs) (h1 : s.cells.length ≤ maxLen) (h2 : s.main.length ≤ maxLen) :
  Wm tb 37 [.agg cs.toArray] w Z [] (RcR (doI s)) := by
 have hck := fun w' (kp : Keep w w' []) => rcheck_any s cs w' (hs.mono (at_keep kp)) h1 h2
 obtain ⟨v1, v2, rfl, hc, hm⟩ := hs
 obtain ⟨a1, c1, rfl, hl1⟩ := slc_sl hc
 obtain ⟨a2, c2, rfl, hl2⟩ := slc_sl hm
 have hcz : ∀ p x, At w p x → Cz (fun _ => True) ⟨w, [], []⟩ p x := fun p x h => ⟨⟨h, by simp⟩, trivial⟩
 replace hc := hc.mono hcz
 replace hm := hm.mono hcz
 refine wm_of (fn := Try.f37) Try.func37 rfl Try.ntmps37 rfl trivial hZ (by intro b hb; cases hb) rcR_mono (fun on => ?_)
 unfold ckE at hck
 unfold doI
 cases hok : scOk s with
 | false =>
  rw [hok, if_neg (by decide)] at hck
  repeat refine s_seqs ?_
  refine s_reg ?_
  refine step_box_agg rfl rfl (fun b1 => ?_)
  refine step_alloc rfl zero27 (fun b2 => ?_)
  refine Vc.step_end (fun a w ok => ?_)
  first | (refine WPs.run ?_ a w ok; clear ok w a) | skip
  repeat refine s_seqs ?_
  refine s_reg ?_
  first | refine step_pure rfl (pure_load_agg (i := 0) rfl rfl rfl rfl rfl (by first | decide | exact Nat.le_of_ble_eq_true rfl) rfl) ?_ | refine step_pure rfl (pure_load_agg (i := 1) rfl rfl rfl rfl rfl (by first | decide | exact Nat.le_of_ble_eq_true rfl) rfl) ?_ | refine step_pure rfl (pure_load_agg (i := 2) rfl rfl rfl rfl rfl (by first | decide | exact Nat.le_of_ble_eq_true rfl) rfl) ?_ | refine step_pure rfl (pure_load_agg (i := 3) rfl rfl rfl rfl rfl (by first | decide | exact Nat.le_of_ble_eq_true rfl) rfl) ?_ | refine step_pure rfl (pure_load_agg (i := 4) rfl rfl rfl rfl rfl (by first | decide | exact Nat.le_of_ble_eq_true rfl) rfl) ?_ | refine step_pure rfl (pure_load_agg (i := 5) rfl rfl rfl rfl rfl (by first | decide | exact Nat.le_of_ble_eq_true rfl) rfl) ?_
  refine step_gives rfl fun38 rfl (fun w' hh kp => hck w' kp) ?_
  refine step_pure rfl (pure_neq rfl rfl) ?_
  refine Vc.step_end (fun a w ok => ?_)
  first | (refine WPs.run ?_ a w ok; clear ok w a) | skip
  repeat refine s_seqs ?_
  refine s_cond_yes rfl rfl ?_
  repeat refine s_seqs ?_
  refine s_reg ?_
  refine step_pure rfl (pure_build_struct (pl := [(0, 1), (1, 1), (2, 1), (3, 1), (4, 1), (5, 1), (6, 1), (7, 1), (8, 1), (9, 1), (10, 1), (11, 1), (12, 3), (15, 1)]) rfl zero27 rfl rfl rfl rfl) ?_
  refine step_store_agg 0 rfl rfl rfl (of_one rfl) rfl rfl rfl rfl (Nat.le_of_ble_eq_true rfl) (show _ = scC zScr (.slice none 0 0) (.slice none 0 0) from rfl) ?_
  refine step_hole ?_
  refine Vc.step_end (fun a w ok => ?_)
  first | (refine WPs.run ?_ a w ok; clear ok w a) | skip
  exact s_ret fun a w ok => ends_wm on (.inr rfl) ok (res_cell_agg (i := 1) Try.results37 rfl rfl rfl rfl rfl (Nat.le_of_ble_eq_true rfl) rfl) (m1 := [_]) (mr := _) (List.Perm.refl _) rcR_mono ⟨none, 0, none, 0, 0, hole, rfl, rfl, sl_nil _ _ (by decide), slc_none⟩
 | true =>
  have hoks := (scOk_iff s).1 hok
  obtain ⟨hn1, hn2⟩ := ok_lens' hoks
  rw [hok, if_pos rfl] at hck
  repeat refine s_seqs ?_
  refine s_reg ?_
  refine step_box_agg rfl rfl (fun b1 => ?_)
  refine step_alloc rfl zero27 (fun b2 => ?_)
  refine Vc.step_end (fun a w ok => ?_)
  first | (refine WPs.run ?_ a w ok; clear ok w a) | skip
  repeat refine s_seqs ?_
  refine s_reg ?_
  first | refine step_pure rfl (pure_load_agg (i := 0) rfl rfl rfl rfl rfl (by first | decide | exact Nat.le_of_ble_eq_true rfl) rfl) ?_ | refine step_pure rfl (pure_load_agg (i := 1) rfl rfl rfl rfl rfl (by first | decide | exact Nat.le_of_ble_eq_true rfl) rfl) ?_ | refine step_pure rfl (pure_load_agg (i := 2) rfl rfl rfl rfl rfl (by first | decide | exact Nat.le_of_ble_eq_true rfl) rfl) ?_ | refine step_pure rfl (pure_load_agg (i := 3) rfl rfl rfl rfl rfl (by first | decide | exact Nat.le_of_ble_eq_true rfl) rfl) ?_ | refine step_pure rfl (pure_load_agg (i := 4) rfl rfl rfl rfl rfl (by first | decide | exact Nat.le_of_ble_eq_true rfl) rfl) ?_ | refine step_pure rfl (pure_load_agg (i := 5) rfl rfl rfl rfl rfl (by first | decide | exact Nat.le_of_ble_eq_true rfl) rfl) ?_
  refine step_gives rfl fun38 rfl (fun w' hh kp => hck w' kp) ?_
  refine step_pure rfl (pure_neq rfl rfl) ?_
  refine Vc.step_end (fun a w ok => ?_)
  first | (refine WPs.run ?_ a w ok; clear ok w a) | skip
  repeat refine s_seqs ?_
  refine s_cond_no rfl rfl ?_
  refine s_skip fun a w ok => WPs.run ?_ a w ok
  clear ok w a
  clear hck
  repeat refine s_seqs ?_
  refine s_reg ?_
  refine step_buildSlice0 rfl rfl rfl rfl (fun b8 => ?_)
  refine step_pure rfl (pure_fieldAddr rfl rfl rfl rfl rfl (by decide)) ?_
  first | refine step_pure rfl (pure_load (i := 0) rfl rfl rfl rfl rfl rfl) ?_ | refine step_pure rfl (pure_load (i := 1) rfl rfl rfl rfl rfl rfl) ?_ | refine step_pure rfl (pure_load (i := 2) rfl rfl rfl rfl rfl rfl) ?_ | refine step_pure rfl (pure_load (i := 3) rfl rfl rfl rfl rfl rfl) ?_ | refine step_pure rfl (pure_load (i := 4) rfl rfl rfl rfl rfl rfl) ?_ | refine step_pure rfl (pure_load (i := 5) rfl rfl rfl rfl rfl rfl) ?_
  refine step_append 0 rfl rfl (sl_empty uC tC b8) rfl rfl rfl rfl rfl elem33 rfl (by decide) rfl rfl (ceR_len _) (src_slc (fun w' hh kp => hc.mono (Cz.now kp))) (ceR_one s.cells) (by omega) (by show _ * 16 ≤ _; omega) (fun base cap e hse => ?_)
  rw [Nat.zero_add, List.nil_append] at hse
  rw [Nat.zero_add]
  refine step_pure rfl (pure_fieldAddr rfl rfl rfl rfl rfl (by decide)) ?_
  refine step_store 2 rfl rfl rfl rfl rfl rfl rfl rfl (Nat.le_of_ble_eq_true rfl) (show _ = scC s (.slice base s.cells.length cap) (.slice a2 s.main.length c2) from rfl) ?_
  refine Vc.step_end (fun a w ok => ?_)
  first | (refine WPs.run ?_ a w ok; clear ok w a) | skip
  repeat refine s_seqs ?_
  refine s_reg ?_
  refine qa rfl rfl ?_
  refine Vc.step_end (fun a w ok => ?_)
  first | (refine WPs.run ?_ a w ok; clear ok w a) | skip
  repeat refine s_seqs ?_
  refine s_reg ?_
  refine qm rfl rfl ?_
  refine step_pure rfl (pure_fieldAddr rfl rfl rfl rfl rfl (by decide)) ?_
  first | refine step_pure rfl (pure_load (i := 0) rfl rfl rfl rfl rfl rfl) ?_ | refine step_pure rfl (pure_load (i := 1) rfl rfl rfl rfl rfl rfl) ?_ | refine step_pure rfl (pure_load (i := 2) rfl rfl rfl rfl rfl rfl) ?_ | refine step_pure rfl (pure_load (i := 3) rfl rfl rfl rfl rfl rfl) ?_ | refine step_pure rfl (pure_load (i := 4) rfl rfl rfl rfl rfl rfl) ?_ | refine step_pure rfl (pure_load (i := 5) rfl rfl rfl rfl rfl rfl) ?_
  refine step_hole ?_
  refine step_append 0 rfl rfl (sl_nil uC tC (by decide)) rfl rfl rfl rfl rfl elem33 rfl (by decide) rfl rfl (ceR_len _) (src_slc (fun w' hh kp => hm.mono (Cz.now kp))) (ceR_one s.main) (by omega) (by show _ * 16 ≤ _; omega) (fun base' cap' e' hs' => ?_)
  rw [Nat.zero_add, List.nil_append] at hs'
  rw [Nat.zero_add]
  refine l_let 0 rfl (fun E2 g hcc => ?_)
  have hm2 := slis_cz hs' (hcc _ on.sc)
  replace on := on.next g
  clear g hcc hs' hc hm
  refine step_pure rfl (pure_fieldAddr rfl rfl rfl rfl rfl (by decide)) ?_
  refine step_store 2 rfl rfl rfl rfl rfl rfl rfl rfl (Nat.le_of_ble_eq_true rfl) (show _ = scC s (.slice base s.cells.length cap) (.slice base' s.main.length cap') from rfl) ?_
  refine Vc.step_end (fun a w ok => ?_)
  first | (refine WPs.run ?_ a w ok; clear ok w a) | skip
  repeat refine s_seqs ?_
  refine s_reg ?_
  first | refine step_pure rfl (pure_load_agg (i := 0) rfl rfl rfl rfl rfl (by first | decide | exact Nat.le_of_ble_eq_true rfl) rfl) ?_ | refine step_pure rfl (pure_load_agg (i := 1) rfl rfl rfl rfl rfl (by first | decide | exact Nat.le_of_ble_eq_true rfl) rfl) ?_ | refine step_pure rfl (pure_load_agg (i := 2) rfl rfl rfl rfl rfl (by first | decide | exact Nat.le_of_ble_eq_true rfl) rfl) ?_ | refine step_pure rfl (pure_load_agg (i := 3) rfl rfl rfl rfl rfl (by first | decide | exact Nat.le_of_ble_eq_true rfl) rfl) ?_ | refine step_pure rfl (pure_load_agg (i := 4) rfl rfl rfl rfl rfl (by first | decide | exact Nat.le_of_ble_eq_true rfl) rfl) ?_ | refine step_pure rfl (pure_load_agg (i := 5) rfl rfl rfl rfl rfl (by first | decide | exact Nat.le_of_ble_eq_true rfl) rfl) ?_
  refine step_store_agg 1 rfl rfl rfl (scC_one s base base' s.cells.length cap s.main.length cap') rfl rfl rfl rfl (Nat.le_of_ble_eq_true rfl) (show _ = scC s (.slice base s.cells.length cap) (.slice base' s.main.length cap') from rfl) ?_
  refine Vc.step_end (fun a w ok => ?_)
  first | (refine WPs.run ?_ a w ok; clear ok w a) | skip
  exact s_ret fun a w ok => ends_wm on (.inr rfl) ok (res_cell_agg (i := 1) Try.results37 rfl rfl rfl rfl rfl (Nat.le_of_ble_eq_true rfl) rfl) (m1 := [_]) (mr := _) (List.Perm.refl _) rcR_mono ⟨base, cap, base', _, cap', e, rfl, rfl, hse, hm2⟩
end Go.Proofs.Ytbcpgdjhomoghaa
