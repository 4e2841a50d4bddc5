/- The calls at the head of all laws of screens: walked. -/
import Derived.Test.YtbcpgdjhomoghaaG17
namespace Go.Proofs.Ytbcpgdjhomoghaa
open Go.RowKit Go.Vc
set_option linter.unusedVariables false
def scA : Scr := ⟨2, 1, [(65, 0), (66, 0)], 1, 0, 0, 0, 0, true, true, false, false, 0, 0, 0, []⟩
def scA1 : Scr := ⟨2, 1, [(65, 0), (32, 0)], 1, 0, 0, 0, 0, false, true, false, false, 0, 0, 0, []⟩
def scB : Scr := ⟨2, 1, [(67, 0), (32, 0)], 1, 0, 0, 0, 0, false, true, false, false, 0, 0, 0, []⟩
theorem scA1_is : doF (putF 65) (newS 2 1) = scA1 := by kernel_rfl
theorem scA_is : doF (putF 66) scA1 = scA := by kernel_rfl
theorem scB_is : doF (putF 67) scA = scB := by kernel_rfl
theorem scB_ok : ckE scB = 0 := by decide
theorem zSc_ck : ckE zScr = 170 := by decide
theorem ce_at {C : Addr → Value → Prop} {p : Addr} {x y : Int} {l : List Ce} {i : Nat} (hp : ∀ j v, (ceR l)[j]? = some v → C (p.add j) v) (hg : l[i]? = some (x, y)) : C ((p.add (i * 2)).add 0) (.int .i64 x) := by
 obtain ⟨h1, h2⟩ := List.getElem?_eq_some_iff.1 hg
 obtain ⟨g0, _⟩ := ceR_get l h1
 rw [List.getD_eq_getElem?_getD, hg] at g0
 rw [Deep.add_add]
 exact hp _ _ g0
theorem slc_two {C : Addr → Value → Prop} {v : Value} {x y : Ce} (h : SlC C 2 v 2 (ceR [x, y])) : ∃ p cap, v = .slice (some p) 2 cap ∧ C ((p.add ((0 : Int).toNat * 2)).add 0) (.int .i64 x.1) ∧ C ((p.add ((1 : Int).toNat * 2)).add 0) (.int .i64 y.1) := by
 obtain ⟨base, cap, rfl, hle, hl, hp⟩ := h
 obtain ⟨p, rfl, hc⟩ := hp (by intro h; cases h)
 refine ⟨p, cap, rfl, ?_, ?_⟩
 ·have := hc 0 _ rfl
  rw [Deep.add_add]
  exact this
 ·have := hc 2 _ rfl
  rw [Deep.add_add]
  exact this
set_option maxHeartbeats 4000000 in
theorem gawake_any (w : World) : Gives tb 7 [] w (.bool true) := by
 refine gives_ofk (fn := Try.f7) Try.func7 rfl Try.ntmps7 rfl (fun on => ?_)
 have hA1 := scA1_is
 have hA := scA_is
 have hB := scB_is
 have hmx : 10 ≤ maxLen := by decide
 repeat refine s_seqs ?_
 refine s_reg ?_
 refine qa rfl rfl ?_
 refine Vc.step_end (fun a w ok => ?_)
 first | (refine WPs.run ?_ a w ok; clear ok w a) | skip
 repeat refine s_seqs ?_
 refine s_reg ?_
 refine step_givesP on.sc rfl fun8 rfl (fun w' Z' hh kp hZ hC => new_P 2 1 w' hZ) ?_
 rintro u E1 g ⟨cs1, rfl, hs1⟩
 replace on := on.next g
 clear g
 obtain ⟨hl1, ho1⟩ := scv_form hs1
 refine qm rfl rfl ?_
 refine qx rfl rfl rfl ?_
 refine qx rfl rfl rfl ?_
 refine step_alloc rfl zero27 (fun b1 => ?_)
 refine step_store_agg 0 rfl rfl rfl ho1 rfl hl1 rfl rfl (Nat.le_of_ble_eq_true rfl) (splice_all hl1) ?_
 refine qa rfl rfl ?_
 refine Vc.step_end (fun a w ok => ?_)
 first | (refine WPs.run ?_ a w ok; clear ok w a) | skip
 repeat refine s_seqs ?_
 refine s_reg ?_
 refine step_pure rfl (pure_load_agg (i := 0) (vs := cs1) rfl rfl rfl rfl rfl (by show 0 + 16 ≤ cs1.length; omega) (by show (cs1.drop 0).take 16 = cs1; rw [List.drop_zero]; exact List.take_of_length_le (by omega))) ?_
 refine step_givesP on.sc rfl fun9 rfl (fun w' Z' hh kp hZ hC => put_P (newS 2 1) cs1 65 w' hZ (hs1.mono (Cz.now kp)) (by show 2 ≤ maxLen; omega) (by show 0 ≤ maxLen; omega)) ?_
 rintro u E2 g ⟨cs2, rfl, hs2⟩
 replace on := on.next g
 rw [hA1] at hs2
 clear g
 refine step_givesP on.sc rfl fun9 rfl (fun w' Z' hh kp hZ hC => put_P scA1 cs2 66 w' hZ (hs2.mono (Cz.now kp)) (by show 2 ≤ maxLen; omega) (by show 0 ≤ maxLen; omega)) ?_
 rintro u E3 g ⟨cs3, rfl, hs3⟩
 replace on := on.next g
 rw [hA] at hs3
 clear g hs2 hs1
 obtain ⟨hl3, ho3⟩ := scv_form hs3
 refine step_alloc rfl zero27 (fun b3 => ?_)
 refine step_store_agg 0 rfl rfl rfl ho3 rfl hl3 rfl rfl (Nat.le_of_ble_eq_true rfl) (splice_all hl3) ?_
 refine Vc.step_end (fun a w ok => ?_)
 first | (refine WPs.run ?_ a w ok; clear ok w a) | skip
 repeat refine s_seqs ?_
 refine s_reg ?_
 refine step_pure rfl (pure_load_agg (i := 0) (vs := cs3) rfl rfl rfl rfl rfl (by show 0 + 16 ≤ cs3.length; omega) (by show (cs3.drop 0).take 16 = cs3; rw [List.drop_zero]; exact List.take_of_length_le (by omega))) ?_
 refine step_givesP on.sc rfl fun9 rfl (fun w' Z' hh kp hZ hC => put_P scA cs3 67 w' hZ (hs3.mono (Cz.now kp)) (by show 2 ≤ maxLen; omega) (by show 0 ≤ maxLen; omega)) ?_
 rintro u E4 g ⟨cs4, rfl, hs4⟩
 replace on := on.next g
 rw [hB] at hs4
 replace hs3 := hs3.mono g.cz
 clear g
 obtain ⟨hl4, ho4⟩ := scv_form hs4
 refine step_alloc rfl zero27 (fun b4 => ?_)
 refine step_store_agg 0 rfl rfl rfl ho4 rfl hl4 rfl rfl (Nat.le_of_ble_eq_true rfl) (splice_all hl4) ?_
 refine Vc.step_end (fun a w ok => ?_)
 first | (refine WPs.run ?_ a w ok; clear ok w a) | skip
 repeat refine s_seqs ?_
 refine s_reg ?_
 refine step_givesP on.sc rfl fun8 rfl (fun w' Z' hh kp hZ hC => new_P 65 1 w' hZ) ?_
 rintro u E5 g ⟨cs5, rfl, hs5⟩
 replace on := on.next g
 replace hs3 := hs3.mono g.cz
 replace hs4 := hs4.mono g.cz
 clear g
 obtain ⟨hl5, ho5⟩ := scv_form hs5
 refine qm rfl rfl ?_
 refine qx rfl rfl rfl ?_
 refine qx rfl rfl rfl ?_
 refine step_alloc rfl zero27 (fun b5 => ?_)
 refine step_store_agg 0 rfl rfl rfl ho5 rfl hl5 rfl rfl (Nat.le_of_ble_eq_true rfl) (splice_all hl5) ?_
 refine qa rfl rfl ?_
 refine Vc.step_end (fun a w ok => ?_)
 first | (refine WPs.run ?_ a w ok; clear ok w a) | skip
 have hckB := fun w' (kp : Keep E5.w0 w' E5.ws) => check_any scB cs4 w' (hs4.mono (Cz.now kp)) (by show 2 ≤ maxLen; omega) (by show 0 ≤ maxLen; omega)
 have hckZ := fun w' => check_any zScr (scC zScr (.slice none 0 0) (.slice none 0 0)) w' zSc_v (by show 0 ≤ maxLen; omega) (by show 0 ≤ maxLen; omega)
 rw [scB_ok] at hckB
 rw [zSc_ck] at hckZ
 clear hs5 hl3 ho3 hl4 ho4
 obtain ⟨u1, u2, rfl, hca, hma⟩ := hs3
 obtain ⟨u3, u4, rfl, hcb, hmb⟩ := hs4
 obtain ⟨pa, ka, rfl, qa0, qa1⟩ := slc_two hca
 obtain ⟨pb, kb, rfl, qb0, qb1⟩ := slc_two hcb
 replace qa0 := qa0.1
 replace qa1 := qa1.1
 replace qb0 := qb0.1
 replace qb1 := qb1.1
 clear hca hma hcb hmb
 repeat refine s_seqs ?_
 refine s_reg ?_
 refine step_pure rfl (pure_fieldAddr rfl rfl rfl rfl rfl (by decide)) ?_
 first | refine step_pure rfl (pure_load (i := 0) rfl rfl rfl rfl rfl rfl) ?_ | refine step_pure rfl (pure_load (i := 1) rfl rfl rfl rfl rfl rfl) ?_ | refine step_pure rfl (pure_load (i := 2) rfl rfl rfl rfl rfl rfl) ?_ | refine step_pure rfl (pure_load (i := 3) rfl rfl rfl rfl rfl rfl) ?_ | refine step_pure rfl (pure_load (i := 4) rfl rfl rfl rfl rfl rfl) ?_ | refine step_pure rfl (pure_load (i := 5) rfl rfl rfl rfl rfl rfl) ?_
 refine step_pure rfl (pure_len_slice rfl rfl rfl) ?_
 refine step_pure rfl (pure_neq rfl rfl) ?_
 refine qm rfl rfl ?_
 first | refine step_pure rfl (pure_fieldAddr rfl rfl rfl rfl rfl (by decide)) ?_ | refine qp rfl rfl rfl ?_
 first | refine step_pure rfl (pure_load (i := 0) rfl rfl rfl rfl rfl rfl) ?_ | refine step_pure rfl (pure_load (i := 1) rfl rfl rfl rfl rfl rfl) ?_ | refine step_pure rfl (pure_load (i := 2) rfl rfl rfl rfl rfl rfl) ?_ | refine step_pure rfl (pure_load (i := 3) rfl rfl rfl rfl rfl rfl) ?_ | refine step_pure rfl (pure_load (i := 4) rfl rfl rfl rfl rfl rfl) ?_ | refine step_pure rfl (pure_load (i := 5) rfl rfl rfl rfl rfl rfl) ?_ | refine qp rfl rfl rfl ?_
 first | refine step_pure rfl (pure_len_slice rfl rfl rfl) ?_ | refine qp rfl rfl rfl ?_
 first | refine step_pure rfl (pure_neq rfl rfl) ?_ | refine qp rfl rfl rfl ?_
 first | refine step_pure rfl (pure_pick_yes rfl rfl) ?_ | refine step_pure rfl (pure_pick_no rfl rfl) ?_ | refine step_pure rfl (pure_pick_bool rfl rfl rfl) ?_
 refine Vc.step_end (fun a w ok => ?_)
 first | (refine WPs.run ?_ a w ok; clear ok w a) | skip
 repeat refine s_seqs ?_
 refine s_cond_no rfl rfl ?_
 refine s_skip fun a w ok => WPs.run ?_ a w ok
 clear ok w a
 repeat refine s_seqs ?_
 refine s_reg ?_
 refine qm rfl rfl ?_
 refine step_pure rfl (pure_eql rfl rfl) ?_
 refine qm rfl rfl ?_
 first | refine step_pure rfl (pure_fieldAddr rfl rfl rfl rfl rfl (by decide)) ?_ | refine qp rfl rfl rfl ?_
 first | refine step_pure rfl (pure_load (i := 0) rfl rfl rfl rfl rfl rfl) ?_ | refine step_pure rfl (pure_load (i := 1) rfl rfl rfl rfl rfl rfl) ?_ | refine step_pure rfl (pure_load (i := 2) rfl rfl rfl rfl rfl rfl) ?_ | refine step_pure rfl (pure_load (i := 3) rfl rfl rfl rfl rfl rfl) ?_ | refine step_pure rfl (pure_load (i := 4) rfl rfl rfl rfl rfl rfl) ?_ | refine step_pure rfl (pure_load (i := 5) rfl rfl rfl rfl rfl rfl) ?_ | refine qp rfl rfl rfl ?_
 first | refine step_pure rfl (pure_indexAddr_at rfl rfl rfl rfl rfl (by decide) (by decide)) ?_ | refine qp rfl rfl rfl ?_
 first | refine step_pure rfl (pure_fieldAddr_at rfl rfl rfl rfl rfl (by decide)) ?_ | refine qp rfl rfl rfl ?_
 first | refine step_pure rfl (pure_cel rfl rfl rfl qa0) ?_ | refine qp rfl rfl rfl ?_
 first | refine step_pure rfl (pure_eql rfl rfl) ?_ | refine qp rfl rfl rfl ?_
 first | refine step_pure rfl (pure_pick_yes rfl rfl) ?_ | refine step_pure rfl (pure_pick_no rfl rfl) ?_ | refine step_pure rfl (pure_pick_bool rfl rfl rfl) ?_
 refine qm rfl rfl ?_
 first | refine step_pure rfl (pure_fieldAddr rfl rfl rfl rfl rfl (by decide)) ?_ | refine qp rfl rfl rfl ?_
 first | refine step_pure rfl (pure_load (i := 0) rfl rfl rfl rfl rfl rfl) ?_ | refine step_pure rfl (pure_load (i := 1) rfl rfl rfl rfl rfl rfl) ?_ | refine step_pure rfl (pure_load (i := 2) rfl rfl rfl rfl rfl rfl) ?_ | refine step_pure rfl (pure_load (i := 3) rfl rfl rfl rfl rfl rfl) ?_ | refine step_pure rfl (pure_load (i := 4) rfl rfl rfl rfl rfl rfl) ?_ | refine step_pure rfl (pure_load (i := 5) rfl rfl rfl rfl rfl rfl) ?_ | refine qp rfl rfl rfl ?_
 first | refine step_pure rfl (pure_indexAddr_at rfl rfl rfl rfl rfl (by decide) (by decide)) ?_ | refine qp rfl rfl rfl ?_
 first | refine step_pure rfl (pure_fieldAddr_at rfl rfl rfl rfl rfl (by decide)) ?_ | refine qp rfl rfl rfl ?_
 first | refine step_pure rfl (pure_cel rfl rfl rfl qa1) ?_ | refine qp rfl rfl rfl ?_
 first | refine step_pure rfl (pure_eql rfl rfl) ?_ | refine qp rfl rfl rfl ?_
 first | refine step_pure rfl (pure_pick_yes rfl rfl) ?_ | refine step_pure rfl (pure_pick_no rfl rfl) ?_ | refine step_pure rfl (pure_pick_bool rfl rfl rfl) ?_
 refine qm rfl rfl ?_
 first | refine step_pure rfl (pure_fieldAddr rfl rfl rfl rfl rfl (by decide)) ?_ | refine qp rfl rfl rfl ?_
 first | refine step_pure rfl (pure_load (i := 0) rfl rfl rfl rfl rfl rfl) ?_ | refine step_pure rfl (pure_load (i := 1) rfl rfl rfl rfl rfl rfl) ?_ | refine step_pure rfl (pure_load (i := 2) rfl rfl rfl rfl rfl rfl) ?_ | refine step_pure rfl (pure_load (i := 3) rfl rfl rfl rfl rfl rfl) ?_ | refine step_pure rfl (pure_load (i := 4) rfl rfl rfl rfl rfl rfl) ?_ | refine step_pure rfl (pure_load (i := 5) rfl rfl rfl rfl rfl rfl) ?_ | refine qp rfl rfl rfl ?_
 first | refine step_pure rfl (pure_pick_yes rfl rfl) ?_ | refine step_pure rfl (pure_pick_no rfl rfl) ?_ | refine step_pure rfl (pure_pick_bool rfl rfl rfl) ?_
 refine qm rfl rfl ?_
 first | refine step_pure rfl (pure_fieldAddr rfl rfl rfl rfl rfl (by decide)) ?_ | refine qp rfl rfl rfl ?_
 first | refine step_pure rfl (pure_load (i := 0) rfl rfl rfl rfl rfl rfl) ?_ | refine step_pure rfl (pure_load (i := 1) rfl rfl rfl rfl rfl rfl) ?_ | refine step_pure rfl (pure_load (i := 2) rfl rfl rfl rfl rfl rfl) ?_ | refine step_pure rfl (pure_load (i := 3) rfl rfl rfl rfl rfl rfl) ?_ | refine step_pure rfl (pure_load (i := 4) rfl rfl rfl rfl rfl rfl) ?_ | refine step_pure rfl (pure_load (i := 5) rfl rfl rfl rfl rfl rfl) ?_ | refine qp rfl rfl rfl ?_
 first | refine step_pure rfl (pure_eql rfl rfl) ?_ | refine qp rfl rfl rfl ?_
 first | refine step_pure rfl (pure_pick_yes rfl rfl) ?_ | refine step_pure rfl (pure_pick_no rfl rfl) ?_ | refine step_pure rfl (pure_pick_bool rfl rfl rfl) ?_
 refine qm rfl rfl ?_
 first | refine step_pure rfl (pure_fieldAddr rfl rfl rfl rfl rfl (by decide)) ?_ | refine qp rfl rfl rfl ?_
 first | refine step_pure rfl (pure_load (i := 0) rfl rfl rfl rfl rfl rfl) ?_ | refine step_pure rfl (pure_load (i := 1) rfl rfl rfl rfl rfl rfl) ?_ | refine step_pure rfl (pure_load (i := 2) rfl rfl rfl rfl rfl rfl) ?_ | refine step_pure rfl (pure_load (i := 3) rfl rfl rfl rfl rfl rfl) ?_ | refine step_pure rfl (pure_load (i := 4) rfl rfl rfl rfl rfl rfl) ?_ | refine step_pure rfl (pure_load (i := 5) rfl rfl rfl rfl rfl rfl) ?_ | refine qp rfl rfl rfl ?_
 first | refine step_pure rfl (pure_indexAddr_at rfl rfl rfl rfl rfl (by decide) (by decide)) ?_ | refine qp rfl rfl rfl ?_
 first | refine step_pure rfl (pure_fieldAddr_at rfl rfl rfl rfl rfl (by decide)) ?_ | refine qp rfl rfl rfl ?_
 first | refine step_pure rfl (pure_cel rfl rfl rfl qb0) ?_ | refine qp rfl rfl rfl ?_
 first | refine step_pure rfl (pure_eql rfl rfl) ?_ | refine qp rfl rfl rfl ?_
 first | refine step_pure rfl (pure_pick_yes rfl rfl) ?_ | refine step_pure rfl (pure_pick_no rfl rfl) ?_ | refine step_pure rfl (pure_pick_bool rfl rfl rfl) ?_
 refine qm rfl rfl ?_
 first | refine step_pure rfl (pure_fieldAddr rfl rfl rfl rfl rfl (by decide)) ?_ | refine qp rfl rfl rfl ?_
 first | refine step_pure rfl (pure_load (i := 0) rfl rfl rfl rfl rfl rfl) ?_ | refine step_pure rfl (pure_load (i := 1) rfl rfl rfl rfl rfl rfl) ?_ | refine step_pure rfl (pure_load (i := 2) rfl rfl rfl rfl rfl rfl) ?_ | refine step_pure rfl (pure_load (i := 3) rfl rfl rfl rfl rfl rfl) ?_ | refine step_pure rfl (pure_load (i := 4) rfl rfl rfl rfl rfl rfl) ?_ | refine step_pure rfl (pure_load (i := 5) rfl rfl rfl rfl rfl rfl) ?_ | refine qp rfl rfl rfl ?_
 first | refine step_pure rfl (pure_indexAddr_at rfl rfl rfl rfl rfl (by decide) (by decide)) ?_ | refine qp rfl rfl rfl ?_
 first | refine step_pure rfl (pure_fieldAddr_at rfl rfl rfl rfl rfl (by decide)) ?_ | refine qp rfl rfl rfl ?_
 first | refine step_pure rfl (pure_cel rfl rfl rfl qb1) ?_ | refine qp rfl rfl rfl ?_
 first | refine step_pure rfl (pure_eql rfl rfl) ?_ | refine qp rfl rfl rfl ?_
 first | refine step_pure rfl (pure_pick_yes rfl rfl) ?_ | refine step_pure rfl (pure_pick_no rfl rfl) ?_ | refine step_pure rfl (pure_pick_bool rfl rfl rfl) ?_
 refine qm rfl rfl ?_
 first | refine step_pure rfl (pure_fieldAddr rfl rfl rfl rfl rfl (by decide)) ?_ | refine qp rfl rfl rfl ?_
 first | refine step_pure rfl (pure_load (i := 0) rfl rfl rfl rfl rfl rfl) ?_ | refine step_pure rfl (pure_load (i := 1) rfl rfl rfl rfl rfl rfl) ?_ | refine step_pure rfl (pure_load (i := 2) rfl rfl rfl rfl rfl rfl) ?_ | refine step_pure rfl (pure_load (i := 3) rfl rfl rfl rfl rfl rfl) ?_ | refine step_pure rfl (pure_load (i := 4) rfl rfl rfl rfl rfl rfl) ?_ | refine step_pure rfl (pure_load (i := 5) rfl rfl rfl rfl rfl rfl) ?_ | refine qp rfl rfl rfl ?_
 first | refine step_pure rfl (pure_eql rfl rfl) ?_ | refine qp rfl rfl rfl ?_
 first | refine step_pure rfl (pure_pick_yes rfl rfl) ?_ | refine step_pure rfl (pure_pick_no rfl rfl) ?_ | refine step_pure rfl (pure_pick_bool rfl rfl rfl) ?_
 refine qm rfl rfl ?_
 first | refine step_pure rfl (pure_fieldAddr rfl rfl rfl rfl rfl (by decide)) ?_ | refine qp rfl rfl rfl ?_
 first | refine step_pure rfl (pure_load (i := 0) rfl rfl rfl rfl rfl rfl) ?_ | refine step_pure rfl (pure_load (i := 1) rfl rfl rfl rfl rfl rfl) ?_ | refine step_pure rfl (pure_load (i := 2) rfl rfl rfl rfl rfl rfl) ?_ | refine step_pure rfl (pure_load (i := 3) rfl rfl rfl rfl rfl rfl) ?_ | refine step_pure rfl (pure_load (i := 4) rfl rfl rfl rfl rfl rfl) ?_ | refine step_pure rfl (pure_load (i := 5) rfl rfl rfl rfl rfl rfl) ?_ | refine qp rfl rfl rfl ?_
 first | refine step_pure rfl (pure_not rfl) ?_ | refine qp rfl rfl rfl ?_
 first | refine step_pure rfl (pure_pick_yes rfl rfl) ?_ | refine step_pure rfl (pure_pick_no rfl rfl) ?_ | refine step_pure rfl (pure_pick_bool rfl rfl rfl) ?_
 refine qm rfl rfl ?_
 first | refine qm rfl rfl ?_ | refine qp rfl rfl rfl ?_
 first | refine step_pure rfl (pure_eql rfl rfl) ?_ | refine qp rfl rfl rfl ?_
 first | refine step_pure rfl (pure_pick_yes rfl rfl) ?_ | refine step_pure rfl (pure_pick_no rfl rfl) ?_ | refine step_pure rfl (pure_pick_bool rfl rfl rfl) ?_
 refine qm rfl rfl ?_
 first | refine step_pure rfl (pure_load_agg (i := 0) rfl rfl rfl rfl rfl (by first | decide | exact Nat.le_of_ble_eq_true rfl) rfl) ?_ | refine step_pure rfl (pure_load_agg (i := 1) rfl rfl rfl rfl rfl (by first | decide | exact Nat.le_of_ble_eq_true rfl) rfl) ?_ | refine step_pure rfl (pure_load_agg (i := 2) rfl rfl rfl rfl rfl (by first | decide | exact Nat.le_of_ble_eq_true rfl) rfl) ?_ | refine step_pure rfl (pure_load_agg (i := 3) rfl rfl rfl rfl rfl (by first | decide | exact Nat.le_of_ble_eq_true rfl) rfl) ?_ | refine step_pure rfl (pure_load_agg (i := 4) rfl rfl rfl rfl rfl (by first | decide | exact Nat.le_of_ble_eq_true rfl) rfl) ?_ | refine step_pure rfl (pure_load_agg (i := 5) rfl rfl rfl rfl rfl (by first | decide | exact Nat.le_of_ble_eq_true rfl) rfl) ?_ | refine qp rfl rfl rfl ?_
 first | refine step_gives rfl fun11 rfl (fun w' hh kp => hckB w' kp) ?_ | refine qp rfl rfl rfl ?_
 first | refine step_pure rfl (pure_eql rfl rfl) ?_ | refine qp rfl rfl rfl ?_
 first | refine step_pure rfl (pure_pick_yes rfl rfl) ?_ | refine step_pure rfl (pure_pick_no rfl rfl) ?_ | refine step_pure rfl (pure_pick_bool rfl rfl rfl) ?_
 refine qm rfl rfl ?_
 first | refine step_pure rfl (pure_build_struct (pl := [(0, 1), (1, 1), (2, 1), (3, 1), (4, 1), (5, 1), (6, 1), (7, 1), (8, 1), (9, 1), (10, 1), (11, 1), (12, 3), (15, 1)]) rfl zero27 rfl rfl rfl rfl) ?_ | refine qp rfl rfl rfl ?_
 first | refine step_gives rfl fun11 rfl (fun w' hh kp => hckZ w') ?_ | refine qp rfl rfl rfl ?_
 first | refine step_pure rfl (pure_eql rfl rfl) ?_ | refine qp rfl rfl rfl ?_
 first | refine step_pure rfl (pure_pick_yes rfl rfl) ?_ | refine step_pure rfl (pure_pick_no rfl rfl) ?_ | refine step_pure rfl (pure_pick_bool rfl rfl rfl) ?_
 refine qm rfl rfl ?_
 first | refine step_pure rfl (pure_pick_yes rfl rfl) ?_ | refine step_pure rfl (pure_pick_no rfl rfl) ?_ | refine step_pure rfl (pure_pick_bool rfl rfl rfl) ?_
 refine qm rfl rfl ?_
 first | refine step_pure rfl (pure_pick_yes rfl rfl) ?_ | refine step_pure rfl (pure_pick_no rfl rfl) ?_ | refine step_pure rfl (pure_pick_bool rfl rfl rfl) ?_
 refine qm rfl rfl ?_
 first | refine step_pure rfl (pure_pick_yes rfl rfl) ?_ | refine step_pure rfl (pure_pick_no rfl rfl) ?_ | refine step_pure rfl (pure_pick_bool rfl rfl rfl) ?_
 refine qa rfl rfl ?_
 refine Vc.step_end (fun a w ok => ?_)
 first | (refine WPs.run ?_ a w ok; clear ok w a) | skip
 exact s_ret fun a w ok => ends_k on (.inr rfl) ok (res_tmp Try.results7 rfl)
end Go.Proofs.Ytbcpgdjhomoghaa
