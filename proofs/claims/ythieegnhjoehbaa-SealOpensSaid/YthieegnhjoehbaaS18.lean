/- The law SealOpens, walked. -/
import Derived.Test.YthieegnhjoehbaaS16
namespace Go.Proofs.Ythieegnhjoehbaa
open Go.RowKit Go.Vc
set_option linter.unusedVariables false
theorem opG_in {K : List Int} {frm : Int} {b : List Int} : (∀ f ∈ (opG K frm b).fs, Bytes f.data) ∧ (∀ f ∈ (opG K frm b).fs, f.rs.length ≤ 16) ∧ (opG K frm b).fs.length ≤ 16 := by
 unfold opG opRd
 split
 ·rename_i p heq
  split at heq
  ·injection heq with heq
   cases hh : hdd b with
   | none => rw [hh] at heq; cases heq
   | some y =>
    rw [hh] at heq
    replace heq : ((rdAll (shown K b y)).bind fun l => if l.length = 0 then none else some (⟨y.1, y.2.1, l⟩ : Pk)) = some p := heq
    have hsb : Bytes (shown K b y) := hid_bytes _ _ _ _
    cases hr : rdAll (shown K b y) with
    | none => rw [hr] at heq; cases heq
    | some l =>
     rw [hr] at heq
     replace heq : (if l.length = 0 then none else some (⟨y.1, y.2.1, l⟩ : Pk)) = some p := heq
     split at heq
     ·cases heq
     ·cases heq
      obtain ⟨-, h6, h7⟩ := rdAll_read hsb hr
      exact ⟨h7, fun f hf => (wrOk_big h6 f hf).2, (wrOk_in h6).1⟩
  ·cases heq
 ·exact ⟨(by intro f hf; cases hf), (by intro f hf; cases hf), Nat.zero_le _⟩
set_option maxHeartbeats 2000000 in
theorem sealopens_any (K : List Int) (frm : Int) (b : List Int) (v : Value) (w : World) (hK : K.length = 96) (hKb : Bytes K) (hv : SlC (At w) 1 v b.length (row b)) (hb : Bytes b) :
  Gives tb 4 [.agg (row K).toArray, .int .i64 frm, v] w (.bool true) := by
 replace hv : SlC (Cz (fun _ => True) ⟨w, [], []⟩) 1 v b.length (row b) := hv.mono fun p x h => ⟨⟨h, by simp⟩, trivial⟩
 obtain ⟨base1, cap1, rfl, hcap1⟩ := slc_str hv
 refine gives_ofk (fn := Try.f4) Try.func4 rfl Try.ntmps4 rfl (fun on => ?_)
 repeat refine s_seqs ?_
 refine s_reg ?_
 refine step_box_agg rfl rfl (fun b3 => ?_)
 refine qa rfl rfl ?_
 refine Vc.step_end (fun a w ok => ?_)
 first | (refine WPs.run ?_ a w ok; clear ok w a) | skip
 repeat refine s_seqs ?_
 refine s_reg ?_
 refine step_gives rfl fun9 rfl (fun w _ _ => sawake_any w) ?_
 refine qa rfl rfl ?_
 refine Vc.step_end (fun a w ok => ?_)
 first | (refine WPs.run ?_ a w ok; clear ok w a) | skip
 repeat refine s_seqs ?_
 refine s_reg ?_
 refine qm rfl rfl ?_
 refine step_pure rfl (pure_len_slice rfl rfl rfl) ?_
 refine step_pure rfl (pure_gtr rfl rfl) ?_
 refine Vc.step_end (fun a w ok => ?_)
 first | (refine WPs.run ?_ a w ok; clear ok w a) | skip
 repeat refine s_seqs ?_
 refine s_cond rfl (fun h => ?_) (fun h => ?_)
 ·repeat refine s_seqs ?_
  refine s_reg ?_
  refine qm rfl rfl ?_
  refine qa rfl rfl ?_
  refine Vc.step_end (fun a w ok => ?_)
  first | (refine WPs.run ?_ a w ok; clear ok w a) | skip
  exact s_ret fun a w ok => ends_k on (.inr rfl) ok (res_tmp Try.results4 rfl)
 have hle : b.length ≤ 1000 := by have := of_decide_eq_false h; omega
 clear h
 refine s_skip fun a w ok => WPs.run ?_ a w ok
 clear ok w a
 obtain ⟨hg1, hg2, hg3⟩ := opG_in (K := K) (frm := frm) (b := b)
 have hps : psB (opG K frm b) (opG K frm b) = true := (psB_iff hg1 hg1).2 rfl
 repeat refine s_seqs ?_
 refine s_reg ?_
 refine step_pure rfl (pure_load_agg (i := 0) rfl rfl rfl rfl rfl (by show 0 + 96 ≤ (row K).length; rw [row_len, hK]; decide) (ints_whole _ _ 96 hK)) ?_
 refine qm rfl rfl ?_
 refine qm rfl rfl ?_
 refine step_givesP on.sc rfl fun17 rfl (fun w' Z' hh kp hZ hC => open_P K frm b _ w' hZ hK hKb (hv.mono (Cz.now kp)) hb (by omega)) ?_
 rintro u E1 g ⟨v1, rfl, hr1⟩
 replace on := on.next g
 replace hv := hv.mono g.cz
 clear g
 obtain ⟨fb1, fc1, rfl, -⟩ := hr1.slice
 refine qm rfl rfl ?_
 refine qx rfl rfl rfl ?_
 refine qx rfl rfl rfl ?_
 refine step_alloc rfl zero25 (fun b8 => ?_)
 first | refine step_store_agg 0 rfl rfl rfl (by decide) rfl rfl rfl rfl (by decide) rfl ?_ | refine step_store_agg 1 rfl rfl rfl (by decide) rfl rfl rfl rfl (by decide) rfl ?_ | refine step_store_agg 2 rfl rfl rfl (by decide) rfl rfl rfl rfl (by decide) rfl ?_ | refine step_store_agg 3 rfl rfl rfl (by decide) rfl rfl rfl rfl (by decide) rfl ?_ | refine step_store_agg 4 rfl rfl rfl (by decide) rfl rfl rfl rfl (by decide) rfl ?_ | refine step_store_agg 5 rfl rfl rfl (by decide) rfl rfl rfl rfl (by decide) rfl ?_ | refine step_store_agg 0 rfl rfl rfl (of_one rfl) rfl rfl rfl rfl (Nat.le_of_ble_eq_true rfl) rfl ?_ | refine step_store_agg 1 rfl rfl rfl (of_one rfl) rfl rfl rfl rfl (Nat.le_of_ble_eq_true rfl) rfl ?_ | refine step_store_agg 2 rfl rfl rfl (of_one rfl) rfl rfl rfl rfl (Nat.le_of_ble_eq_true rfl) rfl ?_ | refine step_store_agg 3 rfl rfl rfl (of_one rfl) rfl rfl rfl rfl (Nat.le_of_ble_eq_true rfl) rfl ?_ | refine step_store_agg 4 rfl rfl rfl (of_one rfl) rfl rfl rfl rfl (Nat.le_of_ble_eq_true rfl) rfl ?_ | refine step_store_agg 5 rfl rfl rfl (of_one rfl) rfl rfl rfl rfl (Nat.le_of_ble_eq_true rfl) rfl ?_
 refine qa rfl rfl ?_
 refine Vc.step_end (fun a w ok => ?_)
 first | (refine WPs.run ?_ a w ok; clear ok w a) | skip
 repeat refine s_seqs ?_
 refine s_reg ?_
 refine step_pure rfl (pure_load_agg (i := 1) rfl rfl rfl rfl rfl (by show 0 + 96 ≤ (row K).length; rw [row_len, hK]; decide) (ints_whole _ _ 96 hK)) ?_
 refine step_gives rfl fun14 rfl (fun w _ _ => lkeys_any K w hK) ?_
 refine qm rfl rfl ?_
 refine qm rfl rfl ?_
 refine step_givesP on.sc rfl fun18 rfl (fun w' Z' hh kp hZ hC => ropen_P K frm b _ w' hZ hK hKb (hv.mono (Cz.now kp)) hb (by omega)) ?_
 rintro u E2 g ⟨v2, rfl, hr2⟩
 replace on := on.next g
 replace hr1 := hr1.mono g.cz
 clear g hv
 obtain ⟨fb2, fc2, rfl, -⟩ := hr2.slice
 refine qm rfl rfl ?_
 refine qx rfl rfl rfl ?_
 refine qx rfl rfl rfl ?_
 refine step_alloc rfl zero25 (fun b10 => ?_)
 first | refine step_store_agg 0 rfl rfl rfl (by decide) rfl rfl rfl rfl (by decide) rfl ?_ | refine step_store_agg 1 rfl rfl rfl (by decide) rfl rfl rfl rfl (by decide) rfl ?_ | refine step_store_agg 2 rfl rfl rfl (by decide) rfl rfl rfl rfl (by decide) rfl ?_ | refine step_store_agg 3 rfl rfl rfl (by decide) rfl rfl rfl rfl (by decide) rfl ?_ | refine step_store_agg 4 rfl rfl rfl (by decide) rfl rfl rfl rfl (by decide) rfl ?_ | refine step_store_agg 5 rfl rfl rfl (by decide) rfl rfl rfl rfl (by decide) rfl ?_ | refine step_store_agg 0 rfl rfl rfl (of_one rfl) rfl rfl rfl rfl (Nat.le_of_ble_eq_true rfl) rfl ?_ | refine step_store_agg 1 rfl rfl rfl (of_one rfl) rfl rfl rfl rfl (Nat.le_of_ble_eq_true rfl) rfl ?_ | refine step_store_agg 2 rfl rfl rfl (of_one rfl) rfl rfl rfl rfl (Nat.le_of_ble_eq_true rfl) rfl ?_ | refine step_store_agg 3 rfl rfl rfl (of_one rfl) rfl rfl rfl rfl (Nat.le_of_ble_eq_true rfl) rfl ?_ | refine step_store_agg 4 rfl rfl rfl (of_one rfl) rfl rfl rfl rfl (Nat.le_of_ble_eq_true rfl) rfl ?_ | refine step_store_agg 5 rfl rfl rfl (of_one rfl) rfl rfl rfl rfl (Nat.le_of_ble_eq_true rfl) rfl ?_
 refine qa rfl rfl ?_
 refine Vc.step_end (fun a w ok => ?_)
 first | (refine WPs.run ?_ a w ok; clear ok w a) | skip
 generalize opG K frm b = P at *
 repeat refine s_seqs ?_
 refine s_reg ?_
 refine step_pure rfl (pure_load_agg (i := 1) rfl rfl rfl rfl rfl (by show 3 ≤ 3; decide) rfl) ?_
 refine step_pure rfl (pure_load_agg (i := 0) rfl rfl rfl rfl rfl (by show 3 ≤ 3; decide) rfl) ?_
 refine step_gives rfl fun19 rfl (fun w' hh kp => psame_any P P _ _ w' ⟨_, rfl, hr1.mono (Cz.now kp)⟩ ⟨_, rfl, hr2.mono (Cz.now kp)⟩ (fun f hf => by have := hg2 f hf; omega) (by omega)) ?_
 rw [hps]
 refine qa rfl rfl ?_
 refine Vc.step_end (fun a w ok => ?_)
 first | (refine WPs.run ?_ a w ok; clear ok w a) | skip
 clear hr1 hr2
 generalize opX K frm b = X at *
 repeat refine s_seqs ?_
 refine s_reg ?_
 refine qm rfl rfl ?_
 refine qm rfl rfl ?_
 refine qm rfl rfl ?_
 refine step_pure rfl (pure_pick_yes rfl rfl) ?_
 refine qm rfl rfl ?_
 refine qm rfl rfl ?_
 refine qm rfl rfl ?_
 refine step_as rfl (pure_eql rfl rfl) (show _ = Value.bool true from by rw [beq_self_eq_true]) ?_
 refine step_pure rfl (pure_pick_yes rfl rfl) ?_
 refine qa rfl rfl ?_
 refine Vc.step_end (fun a w ok => ?_)
 first | (refine WPs.run ?_ a w ok; clear ok w a) | skip
 exact s_ret fun a w ok => ends_k on (.inr rfl) ok (res_tmp Try.results4 rfl)
end Go.Proofs.Ythieegnhjoehbaa
