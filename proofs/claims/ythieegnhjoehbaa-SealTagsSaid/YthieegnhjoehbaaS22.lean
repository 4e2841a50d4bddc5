/- The law SealTags, walked. -/
import Derived.Test.YthieegnhjoehbaaS18
namespace Go.Proofs.Ythieegnhjoehbaa
open Go.RowKit Go.Vc
set_option linter.unusedVariables false
/-- A head is read of what it has alone. -/
theorem hdd_same {b c : List Int} {s n : Int} {k : Nat} (hb : Bytes b) (h : hdd b = some (s, n, k)) (hc : c.take k = b.take k) : hdd c = some (s, n, k) := by
 obtain ⟨h1, h2, h3, h4⟩ := hdd_in hb h
 have h5 : b.take k = hB s n := by
  have : (hB s n ++ b.drop k).take k = hB s n := by rw [h3, List.take_left]
  rw [← h2] at this
  exact this
 have h6 : c = hB s n ++ c.drop k := by
  have := (List.take_append_drop k c).symm
  rw [hc, h5] at this
  exact this
 rw [h6, hdd_hB h1, h3]
theorem tag_set {K : List Int} {frm : Int} {b : List Int} {n : Nat} {x : Int} (hb : Bytes b) (ht : tgOk K frm b = true) (h1 : b.length - 16 ≤ n) (h2 : n < b.length) (hx : x ≠ b.getD n 0) : tgOk K frm (b.set n x) = false := by
 cases hh : hdd b with
 | none => rw [tgOk_none hh] at ht; cases ht
 | some y =>
  obtain ⟨s, m, k⟩ := y
  have hts := tgOk_some (K := K) (frm := frm) hh
  rw [ht] at hts
  have hsk := hts.symm
  simp only [Bool.and_eq_true, decide_eq_true_eq] at hsk
  obtain ⟨hs, hk, htg⟩ := hsk
  have hl : (b.set n x).length = b.length := List.length_set ..
  have h3 : hdd (b.set n x) = some (s, m, k) := hdd_same hb hh (by rw [List.take_set_of_le (by omega)])
  rw [tgOk_some h3, hl, List.take_set_of_le (by omega), htg]
  have hne : ¬ b.drop (b.length - 16) = (b.set n x).drop (b.length - 16) := by
   intro he
   have := congrArg (fun l => l.getD (n - (b.length - 16)) 0) he
   simp only [List.getD_eq_getElem?_getD, List.getElem?_drop] at this
   rw [show b.length - 16 + (n - (b.length - 16)) = n by omega, List.getElem?_set_self h2] at this
   rw [← List.getD_eq_getElem?_getD] at this
   exact hx this.symm
  rw [decide_eq_false hne, Bool.and_false, Bool.and_false]
theorem xor_self_iff {a b : Int} (ha : 0 ≤ a ∧ a < 256) (hb : 0 ≤ b ∧ b < 256) : bits .xor .u8 a b = a ↔ b = 0 := by
 constructor
 ·intro h
  have h1 := xor_back b a hb ha
  have h2 : bits .xor .u8 b a = bits .xor .u8 a b := by
   rw [u8_xor _ _ ha.1 ha.2 hb.1 hb.2, u8_xor _ _ hb.1 hb.2 ha.1 ha.2, Nat.xor_comm]
  rw [h2, h] at h1
  rw [← h1, u8_xor _ _ ha.1 ha.2 ha.1 ha.2, Nat.xor_self]
  rfl
 ·rintro rfl
  rw [u8_xor _ _ ha.1 ha.2 (by decide) (by decide), Int.toNat_zero, Nat.xor_zero]
  omega
theorem set_getD_self (l : List Int) (n : Nat) (h : n < l.length) : l.set n (l.getD n 0) = l := by
 rw [List.getD_eq_getElem?_getD, List.getElem?_eq_getElem h]
 exact List.set_getElem_self h
set_option maxHeartbeats 2000000 in
theorem sealtags_any (K : List Int) (frm : Int) (b : List Int) (v : Value) (at' by' : Int) (w : World) (hK : K.length = 96) (hKb : Bytes K) (hv : SlC (At w) 1 v b.length (row b)) (hb : Bytes b) (ha : 0 ≤ at' ∧ at' < 256) (hy : 0 ≤ by' ∧ by' < 256) :
  Gives tb 6 [.agg (row K).toArray, .int .i64 frm, v, .int .u8 at', .int .u8 by'] w (.bool true) := by
 replace hv : SlC (Cz (fun _ => True) ⟨w, [], []⟩) 1 v b.length (row b) := hv.mono fun p x h => ⟨⟨h, by simp⟩, trivial⟩
 obtain ⟨base1, cap1, rfl, hcap1⟩ := slc_str hv
 refine gives_ofk (fn := Try.f6) Try.func6 rfl Try.ntmps6 rfl (fun on => ?_)
 repeat refine s_seqs ?_
 refine s_reg ?_
 refine step_box_agg rfl rfl (fun b5 => ?_)
 refine qa rfl rfl ?_
 refine Vc.step_end (fun a w ok => ?_)
 first | (refine WPs.run ?_ a w ok; clear ok w a) | skip
 repeat refine s_seqs ?_
 refine s_reg ?_
 refine step_gives rfl fun9 rfl (fun w _ _ => sawake_any w) ?_
 refine qa rfl rfl ?_
 refine Vc.step_end (fun a w ok => ?_)
 first | (refine WPs.run ?_ a w ok; clear ok w a) | skip
 repeat refine s_seqs ?_
 refine s_reg ?_
 refine qm rfl rfl ?_
 refine step_pure rfl (pure_len_slice rfl rfl rfl) ?_
 refine step_pure rfl (pure_gtr rfl rfl) ?_
 refine Vc.step_end (fun a w ok => ?_)
 first | (refine WPs.run ?_ a w ok; clear ok w a) | skip
 repeat refine s_seqs ?_
 refine s_cond rfl (fun h => ?_) (fun h => ?_)
 ·repeat refine s_seqs ?_
  refine s_reg ?_
  refine qm rfl rfl ?_
  refine qa rfl rfl ?_
  refine Vc.step_end (fun a w ok => ?_)
  first | (refine WPs.run ?_ a w ok; clear ok w a) | skip
  exact s_ret fun a w ok => ends_k on (.inr rfl) ok (res_tmp Try.results6 rfl)
 have hle : b.length ≤ 1000 := by have := of_decide_eq_false h; omega
 clear h
 refine s_skip fun a w ok => WPs.run ?_ a w ok
 clear ok w a
 have hx70 := opX_70 K frm b
 repeat refine s_seqs ?_
 refine s_reg ?_
 refine step_pure rfl (pure_load_agg (i := 0) rfl rfl rfl rfl rfl (by show 0 + 96 ≤ (row K).length; rw [row_len, hK]; decide) (ints_whole _ _ 96 hK)) ?_
 refine qm rfl rfl ?_
 refine qm rfl rfl ?_
 refine step_givesP on.sc rfl fun17 rfl (fun w' Z' hh kp hZ hC => open_P K frm b _ w' hZ hK hKb (hv.mono (Cz.now kp)) hb (by omega)) ?_
 rintro u E1 g ⟨v1, rfl, hr1⟩
 replace on := on.next g
 replace hv := hv.mono g.cz
 clear g
 obtain ⟨fb1, fc1, rfl, -⟩ := hr1.slice
 refine qm rfl rfl ?_
 refine qx rfl rfl rfl ?_
 refine qx rfl rfl rfl ?_
 refine step_alloc rfl zero25 (fun b12 => ?_)
 first | refine step_store_agg 0 rfl rfl rfl (by decide) rfl rfl rfl rfl (by decide) rfl ?_ | refine step_store_agg 1 rfl rfl rfl (by decide) rfl rfl rfl rfl (by decide) rfl ?_ | refine step_store_agg 2 rfl rfl rfl (by decide) rfl rfl rfl rfl (by decide) rfl ?_ | refine step_store_agg 3 rfl rfl rfl (by decide) rfl rfl rfl rfl (by decide) rfl ?_ | refine step_store_agg 4 rfl rfl rfl (by decide) rfl rfl rfl rfl (by decide) rfl ?_ | refine step_store_agg 5 rfl rfl rfl (by decide) rfl rfl rfl rfl (by decide) rfl ?_ | refine step_store_agg 0 rfl rfl rfl (of_one rfl) rfl rfl rfl rfl (Nat.le_of_ble_eq_true rfl) rfl ?_ | refine step_store_agg 1 rfl rfl rfl (of_one rfl) rfl rfl rfl rfl (Nat.le_of_ble_eq_true rfl) rfl ?_ | refine step_store_agg 2 rfl rfl rfl (of_one rfl) rfl rfl rfl rfl (Nat.le_of_ble_eq_true rfl) rfl ?_ | refine step_store_agg 3 rfl rfl rfl (of_one rfl) rfl rfl rfl rfl (Nat.le_of_ble_eq_true rfl) rfl ?_ | refine step_store_agg 4 rfl rfl rfl (of_one rfl) rfl rfl rfl rfl (Nat.le_of_ble_eq_true rfl) rfl ?_ | refine step_store_agg 5 rfl rfl rfl (of_one rfl) rfl rfl rfl rfl (Nat.le_of_ble_eq_true rfl) rfl ?_
 refine qa rfl rfl ?_
 refine Vc.step_end (fun a w ok => ?_)
 first | (refine WPs.run ?_ a w ok; clear ok w a) | skip
 repeat refine s_seqs ?_
 refine s_reg ?_
 refine step_pure rfl (pure_load_agg (i := 1) rfl rfl rfl rfl rfl (by show 0 + 96 ≤ (row K).length; rw [row_len, hK]; decide) (ints_whole _ _ 96 hK)) ?_
 refine step_gives rfl fun14 rfl (fun w _ _ => lkeys_any K w hK) ?_
 refine qm rfl rfl ?_
 refine qm rfl rfl ?_
 refine step_gives rfl fun20 rfl (fun w' hh kp => tagged_any K frm b _ w' hK hKb (hv.mono (Cz.now kp)) hb (by omega)) ?_
 refine qa rfl rfl ?_
 refine Vc.step_end (fun a w ok => ?_)
 first | (refine WPs.run ?_ a w ok; clear ok w a) | skip
 clear hr1
 cases htg : tgOk K frm b with
 | false =>
  have hx := opX_no htg
  rw [hx]
  repeat refine s_seqs ?_
  refine s_reg ?_
  refine qm rfl rfl ?_
  refine step_pure rfl (pure_not rfl) ?_
  refine qm rfl rfl ?_
  refine qp rfl rfl rfl ?_
  refine qp rfl rfl rfl ?_
  refine step_pure rfl (pure_pick_yes rfl rfl) ?_
  refine Vc.step_end (fun a w ok => ?_)
  first | (refine WPs.run ?_ a w ok; clear ok w a) | skip
  repeat refine s_seqs ?_
  refine s_cond_yes rfl rfl ?_
  repeat refine s_seqs ?_
  refine s_reg ?_
  refine qm rfl rfl ?_
  refine qm rfl rfl ?_
  refine qm rfl rfl ?_
  refine step_pure rfl (pure_not rfl) ?_
  refine step_pure rfl (pure_pick_yes rfl rfl) ?_
  refine qm rfl rfl ?_
  refine qm rfl rfl ?_
  refine step_pure rfl (pure_eql rfl rfl) ?_
  refine step_pure rfl (pure_pick_yes rfl rfl) ?_
  refine qa rfl rfl ?_
  refine Vc.step_end (fun a w ok => ?_)
  first | (refine WPs.run ?_ a w ok; clear ok w a) | skip
  exact s_ret fun a w ok => ends_k on (.inr rfl) ok (res_tmp Try.results6 rfl)
 | true =>
 rw [htg] at hx70
 replace hx70 : (opX K frm b == 70) = false := hx70
 have hl16 : 16 ≤ b.length := by
  cases hh : hdd b with
  | none => rw [tgOk_none hh] at htg; cases htg
  | some y =>
   obtain ⟨s, m, k⟩ := y
   have hts := tgOk_some (K := K) (frm := frm) hh
   rw [htg] at hts
   have hsk := hts.symm
   simp only [Bool.and_eq_true, decide_eq_true_eq] at hsk
   omega
 repeat refine s_seqs ?_
 refine s_reg ?_
 refine qm rfl rfl ?_
 refine step_pure rfl (pure_not rfl) ?_
 refine qm rfl rfl ?_
 refine qm rfl rfl ?_
 refine step_as rfl (pure_eql rfl rfl) (show _ = Value.bool false from by rw [hx70]) ?_
 refine step_pure rfl (pure_pick_no rfl rfl) ?_
 refine Vc.step_end (fun a w ok => ?_)
 first | (refine WPs.run ?_ a w ok; clear ok w a) | skip
 repeat refine s_seqs ?_
 refine s_cond_no rfl rfl ?_
 refine s_skip fun a w ok => WPs.run ?_ a w ok
 clear ok w a
 obtain ⟨n, hn⟩ : ∃ n : Nat, (n : Int) = (b.length : Int) - 1 - at' % 16 := ⟨((b.length : Int) - 1 - at' % 16).toNat, by omega⟩
 have hn1 : b.length - 16 ≤ n := by omega
 have hn2 : n < b.length := by omega
 obtain ⟨c, hc⟩ : ∃ c, c = b.set n (bits .xor .u8 (b.getD n 0) by') := ⟨_, rfl⟩
 have hcl : c.length = b.length := by rw [hc, List.length_set]
 have hcb : Bytes c := by rw [hc]; exact hb.set _ (bits_byte _ _ _)
 have hwr : IntKind.i64.wrap at' = at' := wrap_i64 (by omega) (by omega)
 have hbn := hb.at n
 have hfin : (by' = 0 → c = b) ∧ (by' ≠ 0 → opX K frm c = 70) := by
  refine ⟨fun h => ?_, fun h => ?_⟩
  ·rw [hc, (xor_self_iff hbn hy).2 h]
   exact set_getD_self b n hn2
  ·rw [hc]
   exact opX_no (tag_set hb htg hn1 hn2 (fun h2 => h ((xor_self_iff hbn hy).1 h2)))
 repeat refine s_seqs ?_
 refine s_reg ?_
 refine step_buildSlice0 rfl rfl rfl rfl (fun b51 => ?_)
 refine qm rfl rfl ?_
 refine step_app8 (L := []) 0 rfl rfl (sl_empty ty5 5 b51) rfl (hv.mono Cz.cel) rfl (by omega) (fun base2 cap2 e2 hs2 => ?_)
 rw [Nat.zero_add, List.nil_append] at hs2
 rw [Nat.zero_add]
 refine qa rfl rfl ?_
 refine Vc.step_end (fun a w ok => ?_)
 first | (refine WPs.run ?_ a w ok; clear ok w a) | skip
 repeat refine s_seqs ?_
 refine s_reg ?_
 refine qm rfl rfl ?_
 refine step_pure rfl (pure_len_slice rfl rfl rfl) ?_
 first | refine step_pure rfl (pure_sub64 rfl rfl (by omega) (by omega)) ?_ | refine step_pure rfl (pure_sub rfl rfl) ?_
 refine qm rfl rfl ?_
 refine step_as rfl (pure_conv rfl rfl rfl rfl) (show _ = Value.int .i64 at' from by rw [hwr]) ?_
 refine step_pure rfl (pure_rem_pos rfl rfl (by omega) (by decide)) ?_
 refine step_as rfl (pure_sub64 rfl rfl (by omega) (by omega)) (show _ = Value.int .i64 n from by rw [hn]) ?_
 refine qa rfl rfl ?_
 refine Vc.step_end (fun a w ok => ?_)
 first | (refine WPs.run ?_ a w ok; clear ok w a) | skip
 obtain ⟨-, hcap2, be, R, rfl, rfl, hR⟩ := slis_form rfl hs2 (by omega)
 clear hs2
 have hgt : (row b ++ R)[n]? = some (.int .u8 (b.getD n 0)) := by rw [List.getElem?_append_left (by rw [row_len]; omega)]; exact row_get b n hn2
 have hst : (row b ++ R).set n (.int .u8 (bits .xor .u8 (b.getD n 0) by')) = row c ++ R := by rw [List.set_append_left _ _ (by rw [row_len]; omega), row_set, hc]
 have hyl : n < (row b ++ R).length := by rw [List.length_append, row_len]; omega
 have hsb := slis_back (u := ty5) (eT := 5) (b := be) (cap := cap2) (l := c) (R := R) rfl (by rw [hcl]; exact hR) (by omega)
 rw [hcl] at hsb
 generalize row b ++ R = Y at *
 repeat refine s_seqs ?_
 refine s_reg ?_
 refine qm rfl rfl ?_
 refine qm rfl rfl ?_
 refine qm rfl rfl ?_
 refine qm rfl rfl ?_
 refine step_pure rfl (pure_ixs (off' := n) rfl rfl rfl rfl rfl (by omega) (by omega) (by show 0 + (n : Int).toNat * 1 = _; omega)) ?_
 refine step_pure rfl (pure_load (i := 0) rfl rfl rfl rfl rfl hgt) ?_
 refine qm rfl rfl ?_
 refine step_pure rfl (pure_xor rfl rfl) ?_
 refine step_pure rfl (pure_ixs (off' := n) rfl rfl rfl rfl rfl (by omega) (by omega) (by show 0 + (n : Int).toNat * 1 = _; omega)) ?_
 refine step_store 0 rfl rfl rfl rfl rfl rfl rfl rfl hyl hst ?_
 refine Vc.step_end (fun a w ok => ?_)
 first | (refine WPs.run ?_ a w ok; clear ok w a) | skip
 refine s_let 0 rfl (fun E2 g hc2 => ?_)
 have hcv := slis_cz hsb (hc2 _ on.sc)
 replace hcv : SlC (Cz (fun _ => True) E2) 1 (.slice (some ⟨be, 0, none⟩) b.length cap2) c.length (row c) := by rw [hcl]; exact hcv
 replace on := on.next g
 clear g hc2 hsb
 repeat refine s_seqs ?_
 refine s_reg ?_
 refine step_pure rfl (pure_load_agg (i := 1) rfl rfl rfl rfl rfl (by show 0 + 96 ≤ (row K).length; rw [row_len, hK]; decide) (ints_whole _ _ 96 hK)) ?_
 refine qm rfl rfl ?_
 refine qm rfl rfl ?_
 refine step_givesP on.sc rfl fun17 rfl (fun w' Z' hh kp hZ hC => open_P K frm c _ w' hZ hK hKb (hcv.mono (Cz.now kp)) hcb (by omega)) ?_
 rintro u E3 g ⟨v3, rfl, hr3⟩
 replace on := on.next g
 clear g hcv
 obtain ⟨fb3, fc3, rfl, -⟩ := hr3.slice
 refine qm rfl rfl ?_
 refine qx rfl rfl rfl ?_
 refine qx rfl rfl rfl ?_
 refine step_alloc rfl zero25 (fun b17 => ?_)
 first | refine step_store_agg 0 rfl rfl rfl (by decide) rfl rfl rfl rfl (by decide) rfl ?_ | refine step_store_agg 1 rfl rfl rfl (by decide) rfl rfl rfl rfl (by decide) rfl ?_ | refine step_store_agg 2 rfl rfl rfl (by decide) rfl rfl rfl rfl (by decide) rfl ?_ | refine step_store_agg 3 rfl rfl rfl (by decide) rfl rfl rfl rfl (by decide) rfl ?_ | refine step_store_agg 4 rfl rfl rfl (by decide) rfl rfl rfl rfl (by decide) rfl ?_ | refine step_store_agg 5 rfl rfl rfl (by decide) rfl rfl rfl rfl (by decide) rfl ?_ | refine step_store_agg 0 rfl rfl rfl (of_one rfl) rfl rfl rfl rfl (Nat.le_of_ble_eq_true rfl) rfl ?_ | refine step_store_agg 1 rfl rfl rfl (of_one rfl) rfl rfl rfl rfl (Nat.le_of_ble_eq_true rfl) rfl ?_ | refine step_store_agg 2 rfl rfl rfl (of_one rfl) rfl rfl rfl rfl (Nat.le_of_ble_eq_true rfl) rfl ?_ | refine step_store_agg 3 rfl rfl rfl (of_one rfl) rfl rfl rfl rfl (Nat.le_of_ble_eq_true rfl) rfl ?_ | refine step_store_agg 4 rfl rfl rfl (of_one rfl) rfl rfl rfl rfl (Nat.le_of_ble_eq_true rfl) rfl ?_ | refine step_store_agg 5 rfl rfl rfl (of_one rfl) rfl rfl rfl rfl (Nat.le_of_ble_eq_true rfl) rfl ?_
 refine qa rfl rfl ?_
 refine Vc.step_end (fun a w ok => ?_)
 first | (refine WPs.run ?_ a w ok; clear ok w a) | skip
 clear hr3
 by_cases h0 : by' = 0
 ·rw [hfin.1 h0]
  subst h0
  generalize opX K frm b = X at *
  repeat refine s_seqs ?_
  refine s_reg ?_
  refine qm rfl rfl ?_
  refine qm rfl rfl ?_
  refine qm rfl rfl ?_
  refine step_as rfl (pure_eql rfl rfl) (show _ = Value.bool false from by rw [hx70]) ?_
  refine qm rfl rfl ?_
  refine step_as rfl (pure_neq rfl rfl) (show _ = Value.bool false from rfl) ?_
  refine step_as rfl (pure_beql rfl rfl rfl rfl) (show _ = Value.bool true from rfl) ?_
  refine step_pure rfl (pure_pick_yes rfl rfl) ?_
  refine qm rfl rfl ?_
  refine qm rfl rfl ?_
  refine step_as rfl (pure_neq rfl rfl) (show _ = Value.bool false from rfl) ?_
  refine qm rfl rfl ?_
  refine qm rfl rfl ?_
  refine qm rfl rfl ?_
  refine step_as rfl (pure_eql rfl rfl) (show _ = Value.bool true from by rw [beq_self_eq_true]) ?_
  refine step_pure rfl (pure_pick_no rfl rfl) ?_
  refine step_pure rfl (pure_pick_yes rfl rfl) ?_
  refine qa rfl rfl ?_
  refine Vc.step_end (fun a w ok => ?_)
  first | (refine WPs.run ?_ a w ok; clear ok w a) | skip
  exact s_ret fun a w ok => ends_k on (.inr rfl) ok (res_tmp Try.results6 rfl)
 ·rw [hfin.2 h0]
  have hb0 : (by' != 0) = true := by simpa using h0
  repeat refine s_seqs ?_
  refine s_reg ?_
  refine qm rfl rfl ?_
  refine qm rfl rfl ?_
  refine qm rfl rfl ?_
  refine step_pure rfl (pure_eql rfl rfl) ?_
  refine qm rfl rfl ?_
  refine step_as rfl (pure_neq rfl rfl) (show _ = Value.bool true from by rw [hb0]) ?_
  refine step_as rfl (pure_beql rfl rfl rfl rfl) (show _ = Value.bool true from rfl) ?_
  refine step_pure rfl (pure_pick_yes rfl rfl) ?_
  refine qm rfl rfl ?_
  refine qm rfl rfl ?_
  refine step_as rfl (pure_neq rfl rfl) (show _ = Value.bool true from by rw [hb0]) ?_
  refine qm rfl rfl ?_
  refine qp rfl rfl rfl ?_
  refine qp rfl rfl rfl ?_
  refine qp rfl rfl rfl ?_
  refine step_pure rfl (pure_pick_yes rfl rfl) ?_
  refine step_pure rfl (pure_pick_yes rfl rfl) ?_
  refine qa rfl rfl ?_
  refine Vc.step_end (fun a w ok => ?_)
  first | (refine WPs.run ?_ a w ok; clear ok w a) | skip
  exact s_ret fun a w ok => ends_k on (.inr rfl) ok (res_tmp Try.results6 rfl)
end Go.Proofs.Ythieegnhjoehbaa
