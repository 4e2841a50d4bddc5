/- The packet that bytes are: Read, the document's too; two packets compared: walked. -/
import Derived.Test.YtajcfafamdacdaaP2
namespace Go.Proofs.Ytajcfafamdacdaa
open Go.RowKit Go.Vc
set_option linter.unusedVariables false

def pG (b : List Int) : Pk := (pRd b).getD ⟨0, 0, []⟩
def pX (b : List Int) : Int := if (pRd b).isSome = true then 0 else 30
def PrR (b : List Int) (u : Value) (C : Addr → Value → Prop) : Prop := ∃ v, u = .tuple #[.agg [.int .i64 (pG b).side, .int .i64 (pG b).num, v].toArray, .int .i64 (pX b)] ∧ FrsC C v (pG b).fs
theorem prR_mono (b : List Int) : ∀ v (C C' : Addr → Value → Prop), (∀ a x, C a x → C' a x) → PrR b v C → PrR b v C' := by
  rintro u C C' hC ⟨v, rfl, hs⟩
  exact ⟨v, rfl, hs.mono hC⟩
theorem frs_nil {C : Addr → Value → Prop} : FrsC C (.slice none 0 0) [] := ⟨[], rfl, by simp, slc_nil⟩
theorem prR_no {b : List Int} {C : Addr → Value → Prop} (h : pRd b = none) : PrR b (.tuple #[.agg [.int .i64 0, .int .i64 0, .slice none 0 0].toArray, .int .i64 30]) C := by
  unfold PrR pG pX
  rw [h]
  exact ⟨_, rfl, frs_nil⟩
theorem prR_yes {b : List Int} {p : Pk} {v : Value} {C : Addr → Value → Prop} (h : pRd b = some p) (hv : FrsC C v p.fs) : PrR b (.tuple #[.agg [.int .i64 p.side, .int .i64 p.num, v].toArray, .int .i64 0]) C := by
  unfold PrR pG pX
  rw [h]
  exact ⟨_, rfl, hv⟩
theorem pRd_no {b : List Int} (h : hdd b = none) : pRd b = none := by unfold pRd; rw [h]; rfl
theorem pRd_some {b : List Int} {s n : Int} {k : Nat} (h : hdd b = some (s, n, k)) : pRd b = (rdAll (b.drop k)).bind fun l => if l.length = 0 then none else some ⟨s, n, l⟩ := by unfold pRd; rw [h]; rfl
set_option maxHeartbeats 1000000 in
theorem pread_P (b : List Int) (v : Value) (w : World) {Z : Nat → Prop} (hZ : ∀ b, w.heap.size ≤ b → Z b) (hv : SlC (At w) 1 v b.length (row b)) (hb : Bytes b) (hle : b.length ≤ 1000000) : GivesP tb 20 [v] w Z (PrR b) := by
  have hv : SlC (Cel ⟨w, [], []⟩) 1 v b.length (row b) := hv.mono fun p x h => ⟨h, by simp⟩
  obtain ⟨base1, cap1, rfl, hcap1⟩ := slc_str hv
  refine givesP_of (fn := Try.f20) Try.func20 rfl Try.ntmps20 rfl hZ (prR_mono b) (fun on => ?_)
  repeat refine s_seqs ?_
  refine s_reg ?_
  refine step_alloc rfl zero24 (fun b2 => ?_)
  refine step_pure rfl (pure_assign rfl) ?_
  refine Vc.step_end (fun a w ok => ?_)
  first | (refine WPs.run ?_ a w ok; clear ok w a) | skip
  repeat refine s_seqs ?_
  refine s_reg ?_
  refine step_pure rfl (pure_move rfl) ?_
  refine step_gives rfl fun22 rfl (fun w' hh kp => headed_any b _ w' (hv.mono fun p x h => h.now kp).slv hb (by omega)) ?_
  cases hh : hdd b with
  | none =>
    rw [hdv_no hh]
    refine step_pure rfl (pure_move rfl) ?_
    refine step_pure rfl (pure_extract rfl rfl) ?_
    refine step_pure rfl (pure_extract rfl rfl) ?_
    refine step_pure rfl (pure_extract rfl rfl) ?_
    refine step_pure rfl (pure_extract rfl rfl) ?_
    refine step_pure rfl (pure_assign rfl) ?_
    refine step_pure rfl (pure_assign rfl) ?_
    refine step_pure rfl (pure_assign rfl) ?_
    refine step_pure rfl (pure_assign rfl) ?_
    refine Vc.step_end (fun a w ok => ?_)
    first | (refine WPs.run ?_ a w ok; clear ok w a) | skip
    repeat refine s_seqs ?_
    refine s_reg ?_
    refine step_pure rfl (pure_move rfl) ?_
    refine step_pure rfl (pure_neq rfl rfl) ?_
    refine Vc.step_end (fun a w ok => ?_)
    first | (refine WPs.run ?_ a w ok; clear ok w a) | skip
    repeat refine s_seqs ?_
    refine s_cond_yes rfl rfl ?_
    repeat refine s_seqs ?_
    refine s_reg ?_
    refine step_pure rfl (pure_load_agg (i := 0) rfl rfl rfl rfl rfl (Nat.le_of_ble_eq_true rfl) rfl) ?_
    refine step_pure rfl (pure_move rfl) ?_
    first | refine step_store_agg 0 rfl rfl rfl (by decide) rfl rfl rfl rfl (by decide) rfl ?_ | refine step_store_agg 1 rfl rfl rfl (by decide) rfl rfl rfl rfl (by decide) rfl ?_ | refine step_store_agg 2 rfl rfl rfl (by decide) rfl rfl rfl rfl (by decide) rfl ?_ | refine step_store_agg 3 rfl rfl rfl (by decide) rfl rfl rfl rfl (by decide) rfl ?_ | refine step_store_agg 4 rfl rfl rfl (by decide) rfl rfl rfl rfl (by decide) rfl ?_ | refine step_store_agg 5 rfl rfl rfl (by decide) rfl rfl rfl rfl (by decide) rfl ?_ | refine step_store_agg 0 rfl rfl rfl (of_one rfl) rfl rfl rfl rfl (Nat.le_of_ble_eq_true rfl) rfl ?_ | refine step_store_agg 1 rfl rfl rfl (of_one rfl) rfl rfl rfl rfl (Nat.le_of_ble_eq_true rfl) rfl ?_ | refine step_store_agg 2 rfl rfl rfl (of_one rfl) rfl rfl rfl rfl (Nat.le_of_ble_eq_true rfl) rfl ?_ | refine step_store_agg 3 rfl rfl rfl (of_one rfl) rfl rfl rfl rfl (Nat.le_of_ble_eq_true rfl) rfl ?_ | refine step_store_agg 4 rfl rfl rfl (of_one rfl) rfl rfl rfl rfl (Nat.le_of_ble_eq_true rfl) rfl ?_ | refine step_store_agg 5 rfl rfl rfl (of_one rfl) rfl rfl rfl rfl (Nat.le_of_ble_eq_true rfl) rfl ?_
    refine step_pure rfl (pure_assign rfl) ?_
    refine Vc.step_end (fun a w ok => ?_)
    first | (refine WPs.run ?_ a w ok; clear ok w a) | skip
    exact s_ret fun a w ok => ends_givesP on (.inr rfl) ok (res_cell_tmp (i := 0) Try.results20 rfl rfl rfl rfl rfl (Nat.le_of_ble_eq_true rfl) rfl rfl) (prR_mono b) (prR_no (pRd_no hh))
  | some y =>
  obtain ⟨s, n, k⟩ := y
  have hle2 := hdd_le hb hh
  have hrd := pRd_some hh
  rw [hdv_yes hh]
  refine step_pure rfl (pure_move rfl) ?_
  refine step_pure rfl (pure_extract rfl rfl) ?_
  refine step_pure rfl (pure_extract rfl rfl) ?_
  refine step_pure rfl (pure_extract rfl rfl) ?_
  refine step_pure rfl (pure_extract rfl rfl) ?_
  refine step_pure rfl (pure_assign rfl) ?_
  refine step_pure rfl (pure_assign rfl) ?_
  refine step_pure rfl (pure_assign rfl) ?_
  refine step_pure rfl (pure_assign rfl) ?_
  refine Vc.step_end (fun a w ok => ?_)
  first | (refine WPs.run ?_ a w ok; clear ok w a) | skip
  repeat refine s_seqs ?_
  refine s_reg ?_
  refine step_pure rfl (pure_move rfl) ?_
  refine step_pure rfl (pure_neq rfl rfl) ?_
  refine Vc.step_end (fun a w ok => ?_)
  first | (refine WPs.run ?_ a w ok; clear ok w a) | skip
  repeat refine s_seqs ?_
  refine s_cond_no rfl rfl ?_
  refine s_skip fun a w ok => WPs.run ?_ a w ok
  clear ok w a
  have hsub := slc_sub (lo := k) (hi := b.length) hv hle2.1 (Nat.le_refl _)
  rw [Nat.mul_one, Nat.mul_one, List.take_of_length_le (by rw [List.length_drop, row_len]; exact Nat.le_refl _), show (row b).drop k = row (b.drop k) from (List.map_drop ..).symm, show b.length - k = (b.drop k).length from (List.length_drop ..).symm] at hsub
  have hbd : Bytes (b.drop k) := fun x hx => hb x (List.mem_of_mem_drop hx)
  have hdl : (b.drop k).length ≤ 1000000 := by rw [List.length_drop]; omega
  repeat refine s_seqs ?_
  refine s_reg ?_
  refine step_pure rfl (pure_move rfl) ?_
  refine step_pure rfl (pure_move rfl) ?_
  refine step_as rfl (pure_sub_lo rfl rfl rfl rfl rfl (by omega) (by omega)) (show _ = subS base1 cap1 1 k b.length from by show subS base1 cap1 1 (k : Int).toNat b.length = _; rw [Int.toNat_natCast]) ?_
  refine step_givesP on.sc rfl fun36 rfl (fun w' Z' hh kp hZ hC => read_P (b.drop k) _ w' hZ (hsub.mono fun p x h => h.now kp) hbd (by omega)) ?_
  rintro u E1 g ⟨v7, rfl, hr⟩
  replace on := on.next g
  clear g hsub hv
  refine step_pure rfl (pure_move rfl) ?_
  refine step_pure rfl (pure_extract rfl rfl) ?_
  refine step_pure rfl (pure_extract rfl rfl) ?_
  refine step_pure rfl (pure_assign rfl) ?_
  refine step_pure rfl (pure_assign rfl) ?_
  refine Vc.step_end (fun a w ok => ?_)
  first | (refine WPs.run ?_ a w ok; clear ok w a) | skip
  cases hd : rdAll (b.drop k) with
  | none =>
    rw [hd] at hrd hr
    obtain ⟨b7, c7, rfl, hc7⟩ := hr.slice
    repeat refine s_seqs ?_
    refine s_reg ?_
    refine step_pure rfl (pure_move rfl) ?_
    refine step_pure rfl (pure_neq rfl rfl) ?_
    refine step_pure rfl (pure_move rfl) ?_
    refine step_pass rfl rfl rfl ?_
    refine step_pass rfl rfl rfl ?_
    refine step_pass rfl rfl rfl ?_
    refine step_pure rfl (pure_pick_yes rfl rfl) ?_
    refine Vc.step_end (fun a w ok => ?_)
    first | (refine WPs.run ?_ a w ok; clear ok w a) | skip
    repeat refine s_seqs ?_
    refine s_cond_yes rfl rfl ?_
    repeat refine s_seqs ?_
    refine s_reg ?_
    refine step_pure rfl (pure_load_agg (i := 0) rfl rfl rfl rfl rfl (Nat.le_of_ble_eq_true rfl) rfl) ?_
    first | refine step_store_agg 0 rfl rfl rfl (by decide) rfl rfl rfl rfl (by decide) rfl ?_ | refine step_store_agg 1 rfl rfl rfl (by decide) rfl rfl rfl rfl (by decide) rfl ?_ | refine step_store_agg 2 rfl rfl rfl (by decide) rfl rfl rfl rfl (by decide) rfl ?_ | refine step_store_agg 3 rfl rfl rfl (by decide) rfl rfl rfl rfl (by decide) rfl ?_ | refine step_store_agg 4 rfl rfl rfl (by decide) rfl rfl rfl rfl (by decide) rfl ?_ | refine step_store_agg 5 rfl rfl rfl (by decide) rfl rfl rfl rfl (by decide) rfl ?_ | refine step_store_agg 0 rfl rfl rfl (of_one rfl) rfl rfl rfl rfl (Nat.le_of_ble_eq_true rfl) rfl ?_ | refine step_store_agg 1 rfl rfl rfl (of_one rfl) rfl rfl rfl rfl (Nat.le_of_ble_eq_true rfl) rfl ?_ | refine step_store_agg 2 rfl rfl rfl (of_one rfl) rfl rfl rfl rfl (Nat.le_of_ble_eq_true rfl) rfl ?_ | refine step_store_agg 3 rfl rfl rfl (of_one rfl) rfl rfl rfl rfl (Nat.le_of_ble_eq_true rfl) rfl ?_ | refine step_store_agg 4 rfl rfl rfl (of_one rfl) rfl rfl rfl rfl (Nat.le_of_ble_eq_true rfl) rfl ?_ | refine step_store_agg 5 rfl rfl rfl (of_one rfl) rfl rfl rfl rfl (Nat.le_of_ble_eq_true rfl) rfl ?_
    refine step_pure rfl (pure_assign rfl) ?_
    refine Vc.step_end (fun a w ok => ?_)
    first | (refine WPs.run ?_ a w ok; clear ok w a) | skip
    exact s_ret fun a w ok => ends_givesP on (.inr rfl) ok (res_cell_tmp (i := 0) Try.results20 rfl rfl rfl rfl rfl (Nat.le_of_ble_eq_true rfl) rfl rfl) (prR_mono b) (prR_no hrd)
  | some l =>
  rw [hd] at hrd hr
  replace hr : FrsC (Cz Z E1) v7 l := hr
  replace hrd : pRd b = if l.length = 0 then none else some ⟨s, n, l⟩ := hrd
  obtain ⟨b7, c7, rfl, hc7⟩ := hr.slice
  repeat refine s_seqs ?_
  refine s_reg ?_
  refine step_pure rfl (pure_move rfl) ?_
  refine step_pure rfl (pure_neq rfl rfl) ?_
  refine step_pure rfl (pure_move rfl) ?_
  refine step_pure rfl (pure_move rfl) ?_
  refine step_pure rfl (pure_len_slice rfl rfl rfl) ?_
  refine step_pure rfl (pure_eql rfl rfl) ?_
  refine step_pure rfl (pure_pick_no rfl rfl) ?_
  refine Vc.step_end (fun a w ok => ?_)
  first | (refine WPs.run ?_ a w ok; clear ok w a) | skip
  repeat refine s_seqs ?_
  refine s_cond rfl (fun h => ?_) (fun h => ?_)
  · rw [if_pos (by simpa using h)] at hrd
    repeat refine s_seqs ?_
    refine s_reg ?_
    refine step_pure rfl (pure_load_agg (i := 0) rfl rfl rfl rfl rfl (Nat.le_of_ble_eq_true rfl) rfl) ?_
    first | refine step_store_agg 0 rfl rfl rfl (by decide) rfl rfl rfl rfl (by decide) rfl ?_ | refine step_store_agg 1 rfl rfl rfl (by decide) rfl rfl rfl rfl (by decide) rfl ?_ | refine step_store_agg 2 rfl rfl rfl (by decide) rfl rfl rfl rfl (by decide) rfl ?_ | refine step_store_agg 3 rfl rfl rfl (by decide) rfl rfl rfl rfl (by decide) rfl ?_ | refine step_store_agg 4 rfl rfl rfl (by decide) rfl rfl rfl rfl (by decide) rfl ?_ | refine step_store_agg 5 rfl rfl rfl (by decide) rfl rfl rfl rfl (by decide) rfl ?_ | refine step_store_agg 0 rfl rfl rfl (of_one rfl) rfl rfl rfl rfl (Nat.le_of_ble_eq_true rfl) rfl ?_ | refine step_store_agg 1 rfl rfl rfl (of_one rfl) rfl rfl rfl rfl (Nat.le_of_ble_eq_true rfl) rfl ?_ | refine step_store_agg 2 rfl rfl rfl (of_one rfl) rfl rfl rfl rfl (Nat.le_of_ble_eq_true rfl) rfl ?_ | refine step_store_agg 3 rfl rfl rfl (of_one rfl) rfl rfl rfl rfl (Nat.le_of_ble_eq_true rfl) rfl ?_ | refine step_store_agg 4 rfl rfl rfl (of_one rfl) rfl rfl rfl rfl (Nat.le_of_ble_eq_true rfl) rfl ?_ | refine step_store_agg 5 rfl rfl rfl (of_one rfl) rfl rfl rfl rfl (Nat.le_of_ble_eq_true rfl) rfl ?_
    refine step_pure rfl (pure_assign rfl) ?_
    refine Vc.step_end (fun a w ok => ?_)
    first | (refine WPs.run ?_ a w ok; clear ok w a) | skip
    exact s_ret fun a w ok => ends_givesP on (.inr rfl) ok (res_cell_tmp (i := 0) Try.results20 rfl rfl rfl rfl rfl (Nat.le_of_ble_eq_true rfl) rfl rfl) (prR_mono b) (prR_no hrd)
  · rw [if_neg (by simpa using h)] at hrd
    refine s_skip fun a w ok => WPs.run ?_ a w ok
    clear ok w a
    repeat refine s_seqs ?_
    refine s_reg ?_
    refine step_pure rfl (pure_move rfl) ?_
    refine step_pure rfl (pure_move rfl) ?_
    refine step_pure rfl (pure_move rfl) ?_
    refine step_pure rfl (pure_build_struct (pl := [(0, 1), (1, 1), (2, 1)]) rfl zero24 rfl rfl rfl rfl) ?_
    first | refine step_store_agg 0 rfl rfl rfl (by decide) rfl rfl rfl rfl (by decide) rfl ?_ | refine step_store_agg 1 rfl rfl rfl (by decide) rfl rfl rfl rfl (by decide) rfl ?_ | refine step_store_agg 2 rfl rfl rfl (by decide) rfl rfl rfl rfl (by decide) rfl ?_ | refine step_store_agg 3 rfl rfl rfl (by decide) rfl rfl rfl rfl (by decide) rfl ?_ | refine step_store_agg 4 rfl rfl rfl (by decide) rfl rfl rfl rfl (by decide) rfl ?_ | refine step_store_agg 5 rfl rfl rfl (by decide) rfl rfl rfl rfl (by decide) rfl ?_ | refine step_store_agg 0 rfl rfl rfl (of_one rfl) rfl rfl rfl rfl (Nat.le_of_ble_eq_true rfl) rfl ?_ | refine step_store_agg 1 rfl rfl rfl (of_one rfl) rfl rfl rfl rfl (Nat.le_of_ble_eq_true rfl) rfl ?_ | refine step_store_agg 2 rfl rfl rfl (of_one rfl) rfl rfl rfl rfl (Nat.le_of_ble_eq_true rfl) rfl ?_ | refine step_store_agg 3 rfl rfl rfl (of_one rfl) rfl rfl rfl rfl (Nat.le_of_ble_eq_true rfl) rfl ?_ | refine step_store_agg 4 rfl rfl rfl (of_one rfl) rfl rfl rfl rfl (Nat.le_of_ble_eq_true rfl) rfl ?_ | refine step_store_agg 5 rfl rfl rfl (of_one rfl) rfl rfl rfl rfl (Nat.le_of_ble_eq_true rfl) rfl ?_
    refine step_pure rfl (pure_assign rfl) ?_
    refine Vc.step_end (fun a w ok => ?_)
    first | (refine WPs.run ?_ a w ok; clear ok w a) | skip
    exact s_ret fun a w ok => ends_givesP on (.inr rfl) ok (res_cell_tmp (i := 0) Try.results20 rfl rfl rfl rfl rfl (Nat.le_of_ble_eq_true rfl) rfl rfl) (prR_mono b) (prR_yes hrd hr)

set_option maxHeartbeats 1000000 in
theorem rpread_P (b : List Int) (v : Value) (w : World) {Z : Nat → Prop} (hZ : ∀ b, w.heap.size ≤ b → Z b) (hv : SlC (At w) 1 v b.length (row b)) (hb : Bytes b) (hle : b.length ≤ 1000000) : GivesP tb 21 [v] w Z (PrR b) := by
  have hv : SlC (Cel ⟨w, [], []⟩) 1 v b.length (row b) := hv.mono fun p x h => ⟨h, by simp⟩
  obtain ⟨base1, cap1, rfl, hcap1⟩ := slc_str hv
  refine givesP_of (fn := Try.f21) Try.func21 rfl Try.ntmps21 rfl hZ (prR_mono b) (fun on => ?_)
  repeat refine s_seqs ?_
  refine s_reg ?_
  refine step_alloc rfl zero24 (fun b2 => ?_)
  refine step_pure rfl (pure_assign rfl) ?_
  refine Vc.step_end (fun a w ok => ?_)
  first | (refine WPs.run ?_ a w ok; clear ok w a) | skip
  repeat refine s_seqs ?_
  refine s_reg ?_
  refine step_pure rfl (pure_move rfl) ?_
  refine step_gives rfl fun23 rfl (fun w' hh kp => rheaded_any b _ w' (hv.mono fun p x h => h.now kp).slv hb (by omega)) ?_
  cases hh : hdd b with
  | none =>
    rw [hdv_no hh]
    refine step_pure rfl (pure_move rfl) ?_
    refine step_pure rfl (pure_extract rfl rfl) ?_
    refine step_pure rfl (pure_extract rfl rfl) ?_
    refine step_pure rfl (pure_extract rfl rfl) ?_
    refine step_pure rfl (pure_extract rfl rfl) ?_
    refine step_pure rfl (pure_assign rfl) ?_
    refine step_pure rfl (pure_assign rfl) ?_
    refine step_pure rfl (pure_assign rfl) ?_
    refine step_pure rfl (pure_assign rfl) ?_
    refine Vc.step_end (fun a w ok => ?_)
    first | (refine WPs.run ?_ a w ok; clear ok w a) | skip
    repeat refine s_seqs ?_
    refine s_reg ?_
    refine step_pure rfl (pure_move rfl) ?_
    refine step_pure rfl (pure_neq rfl rfl) ?_
    refine Vc.step_end (fun a w ok => ?_)
    first | (refine WPs.run ?_ a w ok; clear ok w a) | skip
    repeat refine s_seqs ?_
    refine s_cond_yes rfl rfl ?_
    repeat refine s_seqs ?_
    refine s_reg ?_
    refine step_pure rfl (pure_build_struct (pl := [(0, 1), (1, 1), (2, 1)]) rfl zero24 rfl rfl rfl rfl) ?_
    refine step_pure rfl (pure_move rfl) ?_
    first | refine step_store_agg 0 rfl rfl rfl (by decide) rfl rfl rfl rfl (by decide) rfl ?_ | refine step_store_agg 1 rfl rfl rfl (by decide) rfl rfl rfl rfl (by decide) rfl ?_ | refine step_store_agg 2 rfl rfl rfl (by decide) rfl rfl rfl rfl (by decide) rfl ?_ | refine step_store_agg 3 rfl rfl rfl (by decide) rfl rfl rfl rfl (by decide) rfl ?_ | refine step_store_agg 4 rfl rfl rfl (by decide) rfl rfl rfl rfl (by decide) rfl ?_ | refine step_store_agg 5 rfl rfl rfl (by decide) rfl rfl rfl rfl (by decide) rfl ?_ | refine step_store_agg 0 rfl rfl rfl (of_one rfl) rfl rfl rfl rfl (Nat.le_of_ble_eq_true rfl) rfl ?_ | refine step_store_agg 1 rfl rfl rfl (of_one rfl) rfl rfl rfl rfl (Nat.le_of_ble_eq_true rfl) rfl ?_ | refine step_store_agg 2 rfl rfl rfl (of_one rfl) rfl rfl rfl rfl (Nat.le_of_ble_eq_true rfl) rfl ?_ | refine step_store_agg 3 rfl rfl rfl (of_one rfl) rfl rfl rfl rfl (Nat.le_of_ble_eq_true rfl) rfl ?_ | refine step_store_agg 4 rfl rfl rfl (of_one rfl) rfl rfl rfl rfl (Nat.le_of_ble_eq_true rfl) rfl ?_ | refine step_store_agg 5 rfl rfl rfl (of_one rfl) rfl rfl rfl rfl (Nat.le_of_ble_eq_true rfl) rfl ?_
    refine step_pure rfl (pure_assign rfl) ?_
    refine Vc.step_end (fun a w ok => ?_)
    first | (refine WPs.run ?_ a w ok; clear ok w a) | skip
    exact s_ret fun a w ok => ends_givesP on (.inr rfl) ok (res_cell_tmp (i := 0) Try.results21 rfl rfl rfl rfl rfl (Nat.le_of_ble_eq_true rfl) rfl rfl) (prR_mono b) (prR_no (pRd_no hh))
  | some y =>
  obtain ⟨s, n, k⟩ := y
  have hle2 := hdd_le hb hh
  have hrd := pRd_some hh
  rw [hdv_yes hh]
  refine step_pure rfl (pure_move rfl) ?_
  refine step_pure rfl (pure_extract rfl rfl) ?_
  refine step_pure rfl (pure_extract rfl rfl) ?_
  refine step_pure rfl (pure_extract rfl rfl) ?_
  refine step_pure rfl (pure_extract rfl rfl) ?_
  refine step_pure rfl (pure_assign rfl) ?_
  refine step_pure rfl (pure_assign rfl) ?_
  refine step_pure rfl (pure_assign rfl) ?_
  refine step_pure rfl (pure_assign rfl) ?_
  refine Vc.step_end (fun a w ok => ?_)
  first | (refine WPs.run ?_ a w ok; clear ok w a) | skip
  repeat refine s_seqs ?_
  refine s_reg ?_
  refine step_pure rfl (pure_move rfl) ?_
  refine step_pure rfl (pure_neq rfl rfl) ?_
  refine Vc.step_end (fun a w ok => ?_)
  first | (refine WPs.run ?_ a w ok; clear ok w a) | skip
  repeat refine s_seqs ?_
  refine s_cond_no rfl rfl ?_
  refine s_skip fun a w ok => WPs.run ?_ a w ok
  clear ok w a
  have hsub := slc_sub (lo := k) (hi := b.length) hv hle2.1 (Nat.le_refl _)
  rw [Nat.mul_one, Nat.mul_one, List.take_of_length_le (by rw [List.length_drop, row_len]; exact Nat.le_refl _), show (row b).drop k = row (b.drop k) from (List.map_drop ..).symm, show b.length - k = (b.drop k).length from (List.length_drop ..).symm] at hsub
  have hbd : Bytes (b.drop k) := fun x hx => hb x (List.mem_of_mem_drop hx)
  have hdl : (b.drop k).length ≤ 1000000 := by rw [List.length_drop]; omega
  repeat refine s_seqs ?_
  refine s_reg ?_
  refine step_pure rfl (pure_move rfl) ?_
  refine step_pure rfl (pure_move rfl) ?_
  refine step_as rfl (pure_sub_lo rfl rfl rfl rfl rfl (by omega) (by omega)) (show _ = subS base1 cap1 1 k b.length from by show subS base1 cap1 1 (k : Int).toNat b.length = _; rw [Int.toNat_natCast]) ?_
  refine step_givesP on.sc rfl fun37 rfl (fun w' Z' hh kp hZ hC => rread_P (b.drop k) _ w' hZ (hsub.mono fun p x h => h.now kp) hbd (by omega)) ?_
  rintro u E1 g ⟨v7, rfl, hr⟩
  replace on := on.next g
  clear g hsub hv
  refine step_pure rfl (pure_move rfl) ?_
  refine step_pure rfl (pure_extract rfl rfl) ?_
  refine step_pure rfl (pure_extract rfl rfl) ?_
  refine step_pure rfl (pure_assign rfl) ?_
  refine step_pure rfl (pure_assign rfl) ?_
  refine Vc.step_end (fun a w ok => ?_)
  first | (refine WPs.run ?_ a w ok; clear ok w a) | skip
  cases hd : rdAll (b.drop k) with
  | none =>
    rw [hd] at hrd hr
    obtain ⟨b7, c7, rfl, hc7⟩ := hr.slice
    repeat refine s_seqs ?_
    refine s_reg ?_
    refine step_pure rfl (pure_move rfl) ?_
    refine step_pure rfl (pure_neq rfl rfl) ?_
    refine step_pure rfl (pure_move rfl) ?_
    refine step_pass rfl rfl rfl ?_
    refine step_pass rfl rfl rfl ?_
    refine step_pass rfl rfl rfl ?_
    refine step_pure rfl (pure_pick_yes rfl rfl) ?_
    refine Vc.step_end (fun a w ok => ?_)
    first | (refine WPs.run ?_ a w ok; clear ok w a) | skip
    repeat refine s_seqs ?_
    refine s_cond_yes rfl rfl ?_
    repeat refine s_seqs ?_
    refine s_reg ?_
    refine step_pure rfl (pure_build_struct (pl := [(0, 1), (1, 1), (2, 1)]) rfl zero24 rfl rfl rfl rfl) ?_
    first | refine step_store_agg 0 rfl rfl rfl (by decide) rfl rfl rfl rfl (by decide) rfl ?_ | refine step_store_agg 1 rfl rfl rfl (by decide) rfl rfl rfl rfl (by decide) rfl ?_ | refine step_store_agg 2 rfl rfl rfl (by decide) rfl rfl rfl rfl (by decide) rfl ?_ | refine step_store_agg 3 rfl rfl rfl (by decide) rfl rfl rfl rfl (by decide) rfl ?_ | refine step_store_agg 4 rfl rfl rfl (by decide) rfl rfl rfl rfl (by decide) rfl ?_ | refine step_store_agg 5 rfl rfl rfl (by decide) rfl rfl rfl rfl (by decide) rfl ?_ | refine step_store_agg 0 rfl rfl rfl (of_one rfl) rfl rfl rfl rfl (Nat.le_of_ble_eq_true rfl) rfl ?_ | refine step_store_agg 1 rfl rfl rfl (of_one rfl) rfl rfl rfl rfl (Nat.le_of_ble_eq_true rfl) rfl ?_ | refine step_store_agg 2 rfl rfl rfl (of_one rfl) rfl rfl rfl rfl (Nat.le_of_ble_eq_true rfl) rfl ?_ | refine step_store_agg 3 rfl rfl rfl (of_one rfl) rfl rfl rfl rfl (Nat.le_of_ble_eq_true rfl) rfl ?_ | refine step_store_agg 4 rfl rfl rfl (of_one rfl) rfl rfl rfl rfl (Nat.le_of_ble_eq_true rfl) rfl ?_ | refine step_store_agg 5 rfl rfl rfl (of_one rfl) rfl rfl rfl rfl (Nat.le_of_ble_eq_true rfl) rfl ?_
    refine step_pure rfl (pure_assign rfl) ?_
    refine Vc.step_end (fun a w ok => ?_)
    first | (refine WPs.run ?_ a w ok; clear ok w a) | skip
    exact s_ret fun a w ok => ends_givesP on (.inr rfl) ok (res_cell_tmp (i := 0) Try.results21 rfl rfl rfl rfl rfl (Nat.le_of_ble_eq_true rfl) rfl rfl) (prR_mono b) (prR_no hrd)
  | some l =>
  rw [hd] at hrd hr
  replace hr : FrsC (Cz Z E1) v7 l := hr
  replace hrd : pRd b = if l.length = 0 then none else some ⟨s, n, l⟩ := hrd
  obtain ⟨b7, c7, rfl, hc7⟩ := hr.slice
  repeat refine s_seqs ?_
  refine s_reg ?_
  refine step_pure rfl (pure_move rfl) ?_
  refine step_pure rfl (pure_neq rfl rfl) ?_
  refine step_pure rfl (pure_move rfl) ?_
  refine step_pure rfl (pure_move rfl) ?_
  refine step_pure rfl (pure_len_slice rfl rfl rfl) ?_
  refine step_pure rfl (pure_eql rfl rfl) ?_
  refine step_pure rfl (pure_pick_no rfl rfl) ?_
  refine Vc.step_end (fun a w ok => ?_)
  first | (refine WPs.run ?_ a w ok; clear ok w a) | skip
  repeat refine s_seqs ?_
  refine s_cond rfl (fun h => ?_) (fun h => ?_)
  · rw [if_pos (by simpa using h)] at hrd
    repeat refine s_seqs ?_
    refine s_reg ?_
    refine step_pure rfl (pure_build_struct (pl := [(0, 1), (1, 1), (2, 1)]) rfl zero24 rfl rfl rfl rfl) ?_
    first | refine step_store_agg 0 rfl rfl rfl (by decide) rfl rfl rfl rfl (by decide) rfl ?_ | refine step_store_agg 1 rfl rfl rfl (by decide) rfl rfl rfl rfl (by decide) rfl ?_ | refine step_store_agg 2 rfl rfl rfl (by decide) rfl rfl rfl rfl (by decide) rfl ?_ | refine step_store_agg 3 rfl rfl rfl (by decide) rfl rfl rfl rfl (by decide) rfl ?_ | refine step_store_agg 4 rfl rfl rfl (by decide) rfl rfl rfl rfl (by decide) rfl ?_ | refine step_store_agg 5 rfl rfl rfl (by decide) rfl rfl rfl rfl (by decide) rfl ?_ | refine step_store_agg 0 rfl rfl rfl (of_one rfl) rfl rfl rfl rfl (Nat.le_of_ble_eq_true rfl) rfl ?_ | refine step_store_agg 1 rfl rfl rfl (of_one rfl) rfl rfl rfl rfl (Nat.le_of_ble_eq_true rfl) rfl ?_ | refine step_store_agg 2 rfl rfl rfl (of_one rfl) rfl rfl rfl rfl (Nat.le_of_ble_eq_true rfl) rfl ?_ | refine step_store_agg 3 rfl rfl rfl (of_one rfl) rfl rfl rfl rfl (Nat.le_of_ble_eq_true rfl) rfl ?_ | refine step_store_agg 4 rfl rfl rfl (of_one rfl) rfl rfl rfl rfl (Nat.le_of_ble_eq_true rfl) rfl ?_ | refine step_store_agg 5 rfl rfl rfl (of_one rfl) rfl rfl rfl rfl (Nat.le_of_ble_eq_true rfl) rfl ?_
    refine step_pure rfl (pure_assign rfl) ?_
    refine Vc.step_end (fun a w ok => ?_)
    first | (refine WPs.run ?_ a w ok; clear ok w a) | skip
    exact s_ret fun a w ok => ends_givesP on (.inr rfl) ok (res_cell_tmp (i := 0) Try.results21 rfl rfl rfl rfl rfl (Nat.le_of_ble_eq_true rfl) rfl rfl) (prR_mono b) (prR_no hrd)
  · rw [if_neg (by simpa using h)] at hrd
    refine s_skip fun a w ok => WPs.run ?_ a w ok
    clear ok w a
    repeat refine s_seqs ?_
    refine s_reg ?_
    refine step_pure rfl (pure_move rfl) ?_
    refine step_pure rfl (pure_move rfl) ?_
    refine step_pure rfl (pure_move rfl) ?_
    refine step_pure rfl (pure_build_struct (pl := [(0, 1), (1, 1), (2, 1)]) rfl zero24 rfl rfl rfl rfl) ?_
    first | refine step_store_agg 0 rfl rfl rfl (by decide) rfl rfl rfl rfl (by decide) rfl ?_ | refine step_store_agg 1 rfl rfl rfl (by decide) rfl rfl rfl rfl (by decide) rfl ?_ | refine step_store_agg 2 rfl rfl rfl (by decide) rfl rfl rfl rfl (by decide) rfl ?_ | refine step_store_agg 3 rfl rfl rfl (by decide) rfl rfl rfl rfl (by decide) rfl ?_ | refine step_store_agg 4 rfl rfl rfl (by decide) rfl rfl rfl rfl (by decide) rfl ?_ | refine step_store_agg 5 rfl rfl rfl (by decide) rfl rfl rfl rfl (by decide) rfl ?_ | refine step_store_agg 0 rfl rfl rfl (of_one rfl) rfl rfl rfl rfl (Nat.le_of_ble_eq_true rfl) rfl ?_ | refine step_store_agg 1 rfl rfl rfl (of_one rfl) rfl rfl rfl rfl (Nat.le_of_ble_eq_true rfl) rfl ?_ | refine step_store_agg 2 rfl rfl rfl (of_one rfl) rfl rfl rfl rfl (Nat.le_of_ble_eq_true rfl) rfl ?_ | refine step_store_agg 3 rfl rfl rfl (of_one rfl) rfl rfl rfl rfl (Nat.le_of_ble_eq_true rfl) rfl ?_ | refine step_store_agg 4 rfl rfl rfl (of_one rfl) rfl rfl rfl rfl (Nat.le_of_ble_eq_true rfl) rfl ?_ | refine step_store_agg 5 rfl rfl rfl (of_one rfl) rfl rfl rfl rfl (Nat.le_of_ble_eq_true rfl) rfl ?_
    refine step_pure rfl (pure_assign rfl) ?_
    refine Vc.step_end (fun a w ok => ?_)
    first | (refine WPs.run ?_ a w ok; clear ok w a) | skip
    exact s_ret fun a w ok => ends_givesP on (.inr rfl) ok (res_cell_tmp (i := 0) Try.results21 rfl rfl rfl rfl rfl (Nat.le_of_ble_eq_true rfl) rfl rfl) (prR_mono b) (prR_yes hrd hr)

/-! two packets compared -/
def psB (p q : Pk) : Bool := (p.side == q.side && p.num == q.num) && allB p.fs q.fs
theorem psB_iff {p q : Pk} (hp : ∀ f ∈ p.fs, Bytes f.data) (hq : ∀ f ∈ q.fs, Bytes f.data) : psB p q = true ↔ p = q := by
  unfold psB
  rw [Bool.and_eq_true, Bool.and_eq_true, allB_iff hp hq]
  obtain ⟨s, n, l⟩ := p
  obtain ⟨t, m, k⟩ := q
  simp [and_assoc]
set_option maxHeartbeats 1000000 in
theorem psame_any (p q : Pk) (cs ds : List Value) (w : World) (hp : PkC (At w) p cs) (hq : PkC (At w) q ds) (hrl : ∀ f ∈ p.fs, f.rs.length ≤ 140737488355328) (hfl : p.fs.length ≤ 140737488355328) :
    Gives tb 24 [.agg cs.toArray, .agg ds.toArray] w (.bool (psB p q)) := by
  obtain ⟨fv, rfl, hv⟩ := hp
  obtain ⟨gv, rfl, hu⟩ := hq
  obtain ⟨fb, fc, rfl, hfc⟩ := hv.slice
  obtain ⟨gb, gc, rfl, hgc⟩ := hu.slice
  refine gives_of (fn := Try.f24) Try.func24 rfl Try.ntmps24 rfl ?_
  have hall := fun w' (kp : Keep w w' []) => all_any p.fs q.fs _ _ w' (hv.mono (at_keep kp)) (hu.mono (at_keep kp)) hrl hfl
  repeat refine c_seq ?_
  refine c_region ?_
  refine step_box_agg rfl rfl (fun b2 => ?_)
  refine step_box_agg rfl rfl (fun b3 => ?_)
  refine step_pure rfl (pure_assign rfl) ?_
  refine step_nil ?_
  repeat refine c_seq ?_
  refine c_region ?_
  refine step_pure rfl (pure_fieldAddr rfl rfl rfl rfl rfl (by decide)) ?_
  first | refine step_pure rfl (pure_load (i := 0) rfl rfl rfl rfl rfl rfl) ?_ | refine step_pure rfl (pure_load (i := 1) rfl rfl rfl rfl rfl rfl) ?_ | refine step_pure rfl (pure_load (i := 2) rfl rfl rfl rfl rfl rfl) ?_ | refine step_pure rfl (pure_load (i := 3) rfl rfl rfl rfl rfl rfl) ?_ | refine step_pure rfl (pure_load (i := 4) rfl rfl rfl rfl rfl rfl) ?_ | refine step_pure rfl (pure_load (i := 5) rfl rfl rfl rfl rfl rfl) ?_
  refine step_pure rfl (pure_fieldAddr rfl rfl rfl rfl rfl (by decide)) ?_
  first | refine step_pure rfl (pure_load (i := 0) rfl rfl rfl rfl rfl rfl) ?_ | refine step_pure rfl (pure_load (i := 1) rfl rfl rfl rfl rfl rfl) ?_ | refine step_pure rfl (pure_load (i := 2) rfl rfl rfl rfl rfl rfl) ?_ | refine step_pure rfl (pure_load (i := 3) rfl rfl rfl rfl rfl rfl) ?_ | refine step_pure rfl (pure_load (i := 4) rfl rfl rfl rfl rfl rfl) ?_ | refine step_pure rfl (pure_load (i := 5) rfl rfl rfl rfl rfl rfl) ?_
  refine step_gives rfl fun27 rfl (fun w' _ kp => hall w' kp) ?_
  refine step_pure rfl (pure_assign rfl) ?_
  refine step_nil ?_
  clear hall
  unfold psB
  generalize allB p.fs q.fs = al at *
  repeat refine c_seq ?_
  refine c_region ?_
  refine step_pure rfl (pure_fieldAddr rfl rfl rfl rfl rfl (by decide)) ?_
  first | refine step_pure rfl (pure_load (i := 0) rfl rfl rfl rfl rfl rfl) ?_ | refine step_pure rfl (pure_load (i := 1) rfl rfl rfl rfl rfl rfl) ?_ | refine step_pure rfl (pure_load (i := 2) rfl rfl rfl rfl rfl rfl) ?_ | refine step_pure rfl (pure_load (i := 3) rfl rfl rfl rfl rfl rfl) ?_ | refine step_pure rfl (pure_load (i := 4) rfl rfl rfl rfl rfl rfl) ?_ | refine step_pure rfl (pure_load (i := 5) rfl rfl rfl rfl rfl rfl) ?_
  refine step_pure rfl (pure_fieldAddr rfl rfl rfl rfl rfl (by decide)) ?_
  first | refine step_pure rfl (pure_load (i := 0) rfl rfl rfl rfl rfl rfl) ?_ | refine step_pure rfl (pure_load (i := 1) rfl rfl rfl rfl rfl rfl) ?_ | refine step_pure rfl (pure_load (i := 2) rfl rfl rfl rfl rfl rfl) ?_ | refine step_pure rfl (pure_load (i := 3) rfl rfl rfl rfl rfl rfl) ?_ | refine step_pure rfl (pure_load (i := 4) rfl rfl rfl rfl rfl rfl) ?_ | refine step_pure rfl (pure_load (i := 5) rfl rfl rfl rfl rfl rfl) ?_
  refine step_pure rfl (pure_eql rfl rfl) ?_
  refine step_pure rfl (pure_move rfl) ?_
  refine step_split (t := 16) rfl (fun h16 => ?_) (fun h16 => ?_)
  · refine step_pure rfl (pure_fieldAddr rfl rfl rfl rfl rfl (by decide)) ?_
    first | refine step_pure rfl (pure_load (i := 0) rfl rfl rfl rfl rfl rfl) ?_ | refine step_pure rfl (pure_load (i := 1) rfl rfl rfl rfl rfl rfl) ?_ | refine step_pure rfl (pure_load (i := 2) rfl rfl rfl rfl rfl rfl) ?_ | refine step_pure rfl (pure_load (i := 3) rfl rfl rfl rfl rfl rfl) ?_ | refine step_pure rfl (pure_load (i := 4) rfl rfl rfl rfl rfl rfl) ?_ | refine step_pure rfl (pure_load (i := 5) rfl rfl rfl rfl rfl rfl) ?_
    refine step_pure rfl (pure_fieldAddr rfl rfl rfl rfl rfl (by decide)) ?_
    first | refine step_pure rfl (pure_load (i := 0) rfl rfl rfl rfl rfl rfl) ?_ | refine step_pure rfl (pure_load (i := 1) rfl rfl rfl rfl rfl rfl) ?_ | refine step_pure rfl (pure_load (i := 2) rfl rfl rfl rfl rfl rfl) ?_ | refine step_pure rfl (pure_load (i := 3) rfl rfl rfl rfl rfl rfl) ?_ | refine step_pure rfl (pure_load (i := 4) rfl rfl rfl rfl rfl rfl) ?_ | refine step_pure rfl (pure_load (i := 5) rfl rfl rfl rfl rfl rfl) ?_
    refine step_pure rfl (pure_eql rfl rfl) ?_
    refine step_pure rfl (pure_pick_yes rfl rfl) ?_
    refine step_pure rfl (pure_move rfl) ?_
    refine step_split (t := 23) rfl (fun h23 => ?_) (fun h23 => ?_)
    · refine step_pure rfl (pure_move rfl) ?_
      refine step_pure rfl (pure_pick_yes rfl rfl) ?_
      refine step_pure rfl (pure_assign rfl) ?_
      refine step_nil ?_
      refine c_ret ⟨_, res_tmp Try.results24 rfl, congrArg Value.bool ?_⟩
      simp_all
    · refine step_pass rfl rfl rfl ?_
      refine step_pure rfl (pure_pick_no rfl rfl) ?_
      refine step_pure rfl (pure_assign rfl) ?_
      refine step_nil ?_
      refine c_ret ⟨_, res_tmp Try.results24 rfl, congrArg Value.bool ?_⟩
      simp_all
  · refine step_pass rfl rfl rfl ?_
    refine step_pass rfl rfl rfl ?_
    refine step_pass rfl rfl rfl ?_
    refine step_pass rfl rfl rfl ?_
    refine step_pass rfl rfl rfl ?_
    refine step_pure rfl (pure_pick_no rfl rfl) ?_
    refine step_pure rfl (pure_move rfl) ?_
    refine step_pass rfl rfl rfl ?_
    refine step_pure rfl (pure_pick_no rfl rfl) ?_
    refine step_pure rfl (pure_assign rfl) ?_
    refine step_nil ?_
    refine c_ret ⟨_, res_tmp Try.results24 rfl, congrArg Value.bool ?_⟩
    simp_all
end Go.Proofs.Ytajcfafamdacdaa
