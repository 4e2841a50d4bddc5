/- Bytes to runes: walked. -/
import Derived.Test.YtadginombcjbeaaTA
import Derived.Test.YtadginombcjbeaaG17
import Derived.Test.YtadginombcjbeaaVk
namespace Go.Proofs.Ytadginombcjbeaa
open Go.RowKit Go.Vc
set_option linter.unusedVariables false
abbrev tI : TypeId := 3
abbrev uI : Ty := ty3
theorem goes_any (u : Ut) (w : World) : Gives tb 65 [.agg (utC u).toArray] w (.bool (utGoes u)) := by
 refine gives_of (fn := Try.f65) Try.func65 rfl Try.ntmps65 rfl ?_
 unfold utGoes
 repeat refine c_seq ?_
 refine c_region ?_
 refine step_box_agg rfl rfl (fun b1 => ?_)
 refine qa rfl rfl ?_
 refine step_nil ?_
 repeat refine c_seq ?_
 refine c_region ?_
 refine step_pure rfl (pure_fieldAddr rfl rfl rfl rfl rfl (by decide)) ?_
 first | refine step_pure rfl (pure_load (i := 0) rfl rfl rfl rfl rfl rfl) ?_ | refine step_pure rfl (pure_load (i := 1) rfl rfl rfl rfl rfl rfl) ?_ | refine step_pure rfl (pure_load (i := 2) rfl rfl rfl rfl rfl rfl) ?_ | refine step_pure rfl (pure_load (i := 3) rfl rfl rfl rfl rfl rfl) ?_ | refine step_pure rfl (pure_load (i := 4) rfl rfl rfl rfl rfl rfl) ?_ | refine step_pure rfl (pure_load (i := 5) rfl rfl rfl rfl rfl rfl) ?_
 refine step_pure rfl (pure_geq rfl rfl) ?_
 refine qm rfl rfl ?_
 refine step_split (t := 6) rfl (fun h6 => ?_) (fun h6 => ?_)
 ·refine step_pure rfl (pure_fieldAddr rfl rfl rfl rfl rfl (by decide)) ?_
  first | refine step_pure rfl (pure_load (i := 0) rfl rfl rfl rfl rfl rfl) ?_ | refine step_pure rfl (pure_load (i := 1) rfl rfl rfl rfl rfl rfl) ?_ | refine step_pure rfl (pure_load (i := 2) rfl rfl rfl rfl rfl rfl) ?_ | refine step_pure rfl (pure_load (i := 3) rfl rfl rfl rfl rfl rfl) ?_ | refine step_pure rfl (pure_load (i := 4) rfl rfl rfl rfl rfl rfl) ?_ | refine step_pure rfl (pure_load (i := 5) rfl rfl rfl rfl rfl rfl) ?_
  refine step_pure rfl (pure_leq rfl rfl) ?_
  refine step_pure rfl (pure_pick_yes rfl rfl) ?_
  refine qm rfl rfl ?_
  refine step_split (t := 11) rfl (fun h11 => ?_) (fun h11 => ?_)
  ·refine step_pure rfl (pure_fieldAddr rfl rfl rfl rfl rfl (by decide)) ?_
   first | refine step_pure rfl (pure_load (i := 0) rfl rfl rfl rfl rfl rfl) ?_ | refine step_pure rfl (pure_load (i := 1) rfl rfl rfl rfl rfl rfl) ?_ | refine step_pure rfl (pure_load (i := 2) rfl rfl rfl rfl rfl rfl) ?_ | refine step_pure rfl (pure_load (i := 3) rfl rfl rfl rfl rfl rfl) ?_ | refine step_pure rfl (pure_load (i := 4) rfl rfl rfl rfl rfl rfl) ?_ | refine step_pure rfl (pure_load (i := 5) rfl rfl rfl rfl rfl rfl) ?_
   refine step_pure rfl (pure_geq rfl rfl) ?_
   refine step_pure rfl (pure_pick_yes rfl rfl) ?_
   refine qm rfl rfl ?_
   refine step_split (t := 16) rfl (fun h16 => ?_) (fun h16 => ?_)
   ·refine step_pure rfl (pure_fieldAddr rfl rfl rfl rfl rfl (by decide)) ?_
    first | refine step_pure rfl (pure_load (i := 0) rfl rfl rfl rfl rfl rfl) ?_ | refine step_pure rfl (pure_load (i := 1) rfl rfl rfl rfl rfl rfl) ?_ | refine step_pure rfl (pure_load (i := 2) rfl rfl rfl rfl rfl rfl) ?_ | refine step_pure rfl (pure_load (i := 3) rfl rfl rfl rfl rfl rfl) ?_ | refine step_pure rfl (pure_load (i := 4) rfl rfl rfl rfl rfl rfl) ?_ | refine step_pure rfl (pure_load (i := 5) rfl rfl rfl rfl rfl rfl) ?_
    refine step_pure rfl (pure_leq rfl rfl) ?_
    refine step_pure rfl (pure_pick_yes rfl rfl) ?_
    refine qm rfl rfl ?_
    refine step_split (t := 21) rfl (fun h21 => ?_) (fun h21 => ?_)
    ·refine step_pure rfl (pure_fieldAddr rfl rfl rfl rfl rfl (by decide)) ?_
     first | refine step_pure rfl (pure_load (i := 0) rfl rfl rfl rfl rfl rfl) ?_ | refine step_pure rfl (pure_load (i := 1) rfl rfl rfl rfl rfl rfl) ?_ | refine step_pure rfl (pure_load (i := 2) rfl rfl rfl rfl rfl rfl) ?_ | refine step_pure rfl (pure_load (i := 3) rfl rfl rfl rfl rfl rfl) ?_ | refine step_pure rfl (pure_load (i := 4) rfl rfl rfl rfl rfl rfl) ?_ | refine step_pure rfl (pure_load (i := 5) rfl rfl rfl rfl rfl rfl) ?_
     refine step_pure rfl (pure_eql rfl rfl) ?_
     refine qm rfl rfl ?_
     refine step_split (t := 25) rfl (fun h25 => ?_) (fun h25 => ?_)
     ·refine qp rfl rfl rfl ?_
      refine qp rfl rfl rfl ?_
      refine qp rfl rfl rfl ?_
      refine step_pure rfl (pure_pick_yes rfl rfl) ?_
      refine qm rfl rfl ?_
      refine qp rfl rfl rfl ?_
      refine qp rfl rfl rfl ?_
      refine qp rfl rfl rfl ?_
      refine step_pure rfl (pure_pick_yes rfl rfl) ?_
      refine step_pure rfl (pure_pick_yes rfl rfl) ?_
      refine qa rfl rfl ?_
      refine step_nil ?_
      refine c_ret ⟨_, res_tmp Try.results65 rfl, congrArg Value.bool ?_⟩
      simp_all
      try first | omega | rfl
     ·refine step_pure rfl (pure_fieldAddr rfl rfl rfl rfl rfl (by decide)) ?_
      first | refine step_pure rfl (pure_load (i := 0) rfl rfl rfl rfl rfl rfl) ?_ | refine step_pure rfl (pure_load (i := 1) rfl rfl rfl rfl rfl rfl) ?_ | refine step_pure rfl (pure_load (i := 2) rfl rfl rfl rfl rfl rfl) ?_ | refine step_pure rfl (pure_load (i := 3) rfl rfl rfl rfl rfl rfl) ?_ | refine step_pure rfl (pure_load (i := 4) rfl rfl rfl rfl rfl rfl) ?_ | refine step_pure rfl (pure_load (i := 5) rfl rfl rfl rfl rfl rfl) ?_
      refine step_pure rfl (pure_eql rfl rfl) ?_
      refine step_pure rfl (pure_pick_no rfl rfl) ?_
      refine qm rfl rfl ?_
      refine step_split (t := 30) rfl (fun h30 => ?_) (fun h30 => ?_)
      ·refine qp rfl rfl rfl ?_
       refine qp rfl rfl rfl ?_
       refine qp rfl rfl rfl ?_
       refine step_pure rfl (pure_pick_yes rfl rfl) ?_
       refine step_pure rfl (pure_pick_yes rfl rfl) ?_
       refine qa rfl rfl ?_
       refine step_nil ?_
       refine c_ret ⟨_, res_tmp Try.results65 rfl, congrArg Value.bool ?_⟩
       simp_all
       try first | omega | rfl
      ·refine step_pure rfl (pure_fieldAddr rfl rfl rfl rfl rfl (by decide)) ?_
       first | refine step_pure rfl (pure_load (i := 0) rfl rfl rfl rfl rfl rfl) ?_ | refine step_pure rfl (pure_load (i := 1) rfl rfl rfl rfl rfl rfl) ?_ | refine step_pure rfl (pure_load (i := 2) rfl rfl rfl rfl rfl rfl) ?_ | refine step_pure rfl (pure_load (i := 3) rfl rfl rfl rfl rfl rfl) ?_ | refine step_pure rfl (pure_load (i := 4) rfl rfl rfl rfl rfl rfl) ?_ | refine step_pure rfl (pure_load (i := 5) rfl rfl rfl rfl rfl rfl) ?_
       refine step_pure rfl (pure_eql rfl rfl) ?_
       refine step_pure rfl (pure_pick_no rfl rfl) ?_
       refine step_pure rfl (pure_pick_yes rfl rfl) ?_
       refine qa rfl rfl ?_
       refine step_nil ?_
       refine c_ret ⟨_, res_tmp Try.results65 rfl, congrArg Value.bool ?_⟩
       simp_all
       try first | omega | rfl
    ·refine qp rfl rfl rfl ?_
     refine qp rfl rfl rfl ?_
     refine qp rfl rfl rfl ?_
     refine qp rfl rfl rfl ?_
     refine qp rfl rfl rfl ?_
     refine qp rfl rfl rfl ?_
     refine qp rfl rfl rfl ?_
     refine qp rfl rfl rfl ?_
     refine qp rfl rfl rfl ?_
     refine qp rfl rfl rfl ?_
     refine qp rfl rfl rfl ?_
     refine qp rfl rfl rfl ?_
     refine qp rfl rfl rfl ?_
     refine step_pure rfl (pure_pick_no rfl rfl) ?_
     refine qa rfl rfl ?_
     refine step_nil ?_
     refine c_ret ⟨_, res_tmp Try.results65 rfl, congrArg Value.bool ?_⟩
     simp_all
     try first | omega | rfl
   ·refine qp rfl rfl rfl ?_
    refine qp rfl rfl rfl ?_
    refine qp rfl rfl rfl ?_
    refine step_pure rfl (pure_pick_no rfl rfl) ?_
    refine qm rfl rfl ?_
    refine qp rfl rfl rfl ?_
    refine qp rfl rfl rfl ?_
    refine qp rfl rfl rfl ?_
    refine qp rfl rfl rfl ?_
    refine qp rfl rfl rfl ?_
    refine qp rfl rfl rfl ?_
    refine qp rfl rfl rfl ?_
    refine qp rfl rfl rfl ?_
    refine qp rfl rfl rfl ?_
    refine qp rfl rfl rfl ?_
    refine qp rfl rfl rfl ?_
    refine qp rfl rfl rfl ?_
    refine qp rfl rfl rfl ?_
    refine step_pure rfl (pure_pick_no rfl rfl) ?_
    refine qa rfl rfl ?_
    refine step_nil ?_
    refine c_ret ⟨_, res_tmp Try.results65 rfl, congrArg Value.bool ?_⟩
    simp_all
    try first | omega | rfl
  ·refine qp rfl rfl rfl ?_
   refine qp rfl rfl rfl ?_
   refine qp rfl rfl rfl ?_
   refine step_pure rfl (pure_pick_no rfl rfl) ?_
   refine qm rfl rfl ?_
   refine qp rfl rfl rfl ?_
   refine qp rfl rfl rfl ?_
   refine qp rfl rfl rfl ?_
   refine step_pure rfl (pure_pick_no rfl rfl) ?_
   refine qm rfl rfl ?_
   refine qp rfl rfl rfl ?_
   refine qp rfl rfl rfl ?_
   refine qp rfl rfl rfl ?_
   refine qp rfl rfl rfl ?_
   refine qp rfl rfl rfl ?_
   refine qp rfl rfl rfl ?_
   refine qp rfl rfl rfl ?_
   refine qp rfl rfl rfl ?_
   refine qp rfl rfl rfl ?_
   refine qp rfl rfl rfl ?_
   refine qp rfl rfl rfl ?_
   refine qp rfl rfl rfl ?_
   refine qp rfl rfl rfl ?_
   refine step_pure rfl (pure_pick_no rfl rfl) ?_
   refine qa rfl rfl ?_
   refine step_nil ?_
   refine c_ret ⟨_, res_tmp Try.results65 rfl, congrArg Value.bool ?_⟩
   simp_all
   try first | omega | rfl
 ·refine qp rfl rfl rfl ?_
  refine qp rfl rfl rfl ?_
  refine qp rfl rfl rfl ?_
  refine step_pure rfl (pure_pick_no rfl rfl) ?_
  refine qm rfl rfl ?_
  refine qp rfl rfl rfl ?_
  refine qp rfl rfl rfl ?_
  refine qp rfl rfl rfl ?_
  refine step_pure rfl (pure_pick_no rfl rfl) ?_
  refine qm rfl rfl ?_
  refine qp rfl rfl rfl ?_
  refine qp rfl rfl rfl ?_
  refine qp rfl rfl rfl ?_
  refine step_pure rfl (pure_pick_no rfl rfl) ?_
  refine qm rfl rfl ?_
  refine qp rfl rfl rfl ?_
  refine qp rfl rfl rfl ?_
  refine qp rfl rfl rfl ?_
  refine qp rfl rfl rfl ?_
  refine qp rfl rfl rfl ?_
  refine qp rfl rfl rfl ?_
  refine qp rfl rfl rfl ?_
  refine qp rfl rfl rfl ?_
  refine qp rfl rfl rfl ?_
  refine qp rfl rfl rfl ?_
  refine qp rfl rfl rfl ?_
  refine qp rfl rfl rfl ?_
  refine qp rfl rfl rfl ?_
  refine step_pure rfl (pure_pick_no rfl rfl) ?_
  refine qa rfl rfl ?_
  refine step_nil ?_
  refine c_ret ⟨_, res_tmp Try.results65 rfl, congrArg Value.bool ?_⟩
  simp_all
  try first | omega | rfl
theorem is_any (n : Int) (w : World) : Gives tb 67 [.int .i64 n] w (.bool (utIs n)) := by
 refine gives_of (fn := Try.f67) Try.func67 rfl Try.ntmps67 rfl ?_
 unfold utIs
 repeat refine c_seq ?_
 refine c_region ?_
 refine qa rfl rfl ?_
 refine step_nil ?_
 repeat refine c_seq ?_
 refine c_region ?_
 refine qm rfl rfl ?_
 refine step_pure rfl (pure_geq rfl rfl) ?_
 refine qm rfl rfl ?_
 refine step_split (t := 5) rfl (fun h5 => ?_) (fun h5 => ?_)
 ·refine qm rfl rfl ?_
  refine step_pure rfl (pure_leq rfl rfl) ?_
  refine step_pure rfl (pure_pick_yes rfl rfl) ?_
  refine qm rfl rfl ?_
  refine step_split (t := 9) rfl (fun h9 => ?_) (fun h9 => ?_)
  ·refine qm rfl rfl ?_
   refine step_pure rfl (pure_lss rfl rfl) ?_
   refine qm rfl rfl ?_
   refine step_split (t := 12) rfl (fun h12 => ?_) (fun h12 => ?_)
   ·refine qp rfl rfl rfl ?_
    refine qp rfl rfl rfl ?_
    refine step_pure rfl (pure_pick_yes rfl rfl) ?_
    refine step_pure rfl (pure_pick_yes rfl rfl) ?_
    refine qa rfl rfl ?_
    refine step_nil ?_
    refine c_ret ⟨_, res_tmp Try.results67 rfl, congrArg Value.bool ?_⟩
    simp_all
    try first | omega | rfl
   ·refine qm rfl rfl ?_
    refine step_pure rfl (pure_gtr rfl rfl) ?_
    refine step_pure rfl (pure_pick_no rfl rfl) ?_
    refine step_pure rfl (pure_pick_yes rfl rfl) ?_
    refine qa rfl rfl ?_
    refine step_nil ?_
    refine c_ret ⟨_, res_tmp Try.results67 rfl, congrArg Value.bool ?_⟩
    simp_all
    try first | omega | rfl
  ·refine qp rfl rfl rfl ?_
   refine qp rfl rfl rfl ?_
   refine qp rfl rfl rfl ?_
   refine qp rfl rfl rfl ?_
   refine qp rfl rfl rfl ?_
   refine qp rfl rfl rfl ?_
   refine step_pure rfl (pure_pick_no rfl rfl) ?_
   refine qa rfl rfl ?_
   refine step_nil ?_
   refine c_ret ⟨_, res_tmp Try.results67 rfl, congrArg Value.bool ?_⟩
   simp_all
   try first | omega | rfl
 ·refine qp rfl rfl rfl ?_
  refine qp rfl rfl rfl ?_
  refine step_pure rfl (pure_pick_no rfl rfl) ?_
  refine qm rfl rfl ?_
  refine qp rfl rfl rfl ?_
  refine qp rfl rfl rfl ?_
  refine qp rfl rfl rfl ?_
  refine qp rfl rfl rfl ?_
  refine qp rfl rfl rfl ?_
  refine qp rfl rfl rfl ?_
  refine step_pure rfl (pure_pick_no rfl rfl) ?_
  refine qa rfl rfl ?_
  refine step_nil ?_
  refine c_ret ⟨_, res_tmp Try.results67 rfl, congrArg Value.bool ?_⟩
  simp_all
  try first | omega | rfl
def UtR (x : Ut × List Int) (u : Value) (C : Addr → Value → Prop) : Prop := ∃ v, u = .tuple #[.agg (utC x.1).toArray, v] ∧ SlC C 1 v x.2.length (ints .i64 x.2)
theorem utR_mono {x : Ut × List Int} : ∀ v (C C' : Addr → Value → Prop), (∀ p x, C p x → C' p x) → UtR x v C → UtR x v C' := by
 rintro v C C' hC ⟨u, rfl, h⟩
 exact ⟨u, rfl, h.mono hC⟩
theorem slc_nil {C : Addr → Value → Prop} {k : Nat} : SlC C k (.slice none 0 0) 0 [] := ⟨none, 0, rfl, Nat.le_refl _, (Nat.zero_mul _).symm, fun h => absurd rfl h⟩
theorem built_i (x : Int) : fillL (fun i => some (i * uI.size, uI.size)) (rowOf [.int .i64 0] (1 * uI.size)) [(0, .int .i64 x)] = some [.int .i64 x] := by kernel_rfl
set_option maxHeartbeats 1000000 in
theorem first_P (b : Int) (w : World) {Z : Nat → Prop} (hZ : ∀ j, w.heap.size ≤ j → Z j) : GivesP tb 66 [.int .u8 b] w Z (UtR (utFirst b)) := by
 refine givesP_of (fn := Try.f66) Try.func66 rfl Try.ntmps66 rfl hZ utR_mono (fun on => ?_)
 repeat refine s_seqs ?_
 refine s_reg ?_
 refine step_alloc rfl zero23 (fun b2 => ?_)
 refine qa rfl rfl ?_
 refine Vc.step_end (fun a w ok => ?_)
 first | (refine WPs.run ?_ a w ok; clear ok w a) | skip
 repeat refine s_seqs ?_
 refine s_block ?_
 repeat refine s_seqs ?_
 refine s_reg ?_
 refine qm rfl rfl ?_
 refine step_pure rfl (pure_lss rfl rfl) ?_
 refine qa rfl rfl ?_
 refine Vc.step_end (fun a w ok => ?_)
 first | (refine WPs.run ?_ a w ok; clear ok w a) | skip
 repeat refine s_seqs ?_
 refine s_cond rfl (fun h1 => ?_) (fun h1 => ?_)
 ·have h1 := of_decide_eq_true h1
  repeat refine s_seqs ?_
  refine s_reg ?_
  first | refine step_pure rfl (pure_load_agg (i := 0) rfl rfl rfl rfl rfl (by first | decide | exact Nat.le_of_ble_eq_true rfl) rfl) ?_ | refine step_pure rfl (pure_load_agg (i := 1) rfl rfl rfl rfl rfl (by first | decide | exact Nat.le_of_ble_eq_true rfl) rfl) ?_ | refine step_pure rfl (pure_load_agg (i := 2) rfl rfl rfl rfl rfl (by first | decide | exact Nat.le_of_ble_eq_true rfl) rfl) ?_ | refine step_pure rfl (pure_load_agg (i := 3) rfl rfl rfl rfl rfl (by first | decide | exact Nat.le_of_ble_eq_true rfl) rfl) ?_ | refine step_pure rfl (pure_load_agg (i := 4) rfl rfl rfl rfl rfl (by first | decide | exact Nat.le_of_ble_eq_true rfl) rfl) ?_ | refine step_pure rfl (pure_load_agg (i := 5) rfl rfl rfl rfl rfl (by first | decide | exact Nat.le_of_ble_eq_true rfl) rfl) ?_
  refine qm rfl rfl ?_
  refine step_pure rfl (pure_conv rfl rfl rfl rfl) ?_
  refine step_buildSlice rfl rfl rfl rfl elem3 (by decide) (by decide) (built_i _) (fun b14 => ?_)
  refine l_let 0 rfl (fun E2 g hc => ?_)
  have hv := slis_cz (sl_built uI tI b14 [.int .i64 (IntKind.i64.wrap b)] 1 rfl) (hc _ on.sc)
  replace on := on.next g
  clear g hc
  first | refine step_store_agg 0 rfl rfl rfl (by decide) rfl rfl rfl rfl (by decide) rfl ?_ | refine step_store_agg 1 rfl rfl rfl (by decide) rfl rfl rfl rfl (by decide) rfl ?_ | refine step_store_agg 2 rfl rfl rfl (by decide) rfl rfl rfl rfl (by decide) rfl ?_ | refine step_store_agg 3 rfl rfl rfl (by decide) rfl rfl rfl rfl (by decide) rfl ?_ | refine step_store_agg 4 rfl rfl rfl (by decide) rfl rfl rfl rfl (by decide) rfl ?_ | refine step_store_agg 5 rfl rfl rfl (by decide) rfl rfl rfl rfl (by decide) rfl ?_ | refine step_store_agg 0 rfl rfl rfl (of_one rfl) rfl rfl rfl rfl (Nat.le_of_ble_eq_true rfl) rfl ?_ | refine step_store_agg 1 rfl rfl rfl (of_one rfl) rfl rfl rfl rfl (Nat.le_of_ble_eq_true rfl) rfl ?_ | refine step_store_agg 2 rfl rfl rfl (of_one rfl) rfl rfl rfl rfl (Nat.le_of_ble_eq_true rfl) rfl ?_ | refine step_store_agg 3 rfl rfl rfl (of_one rfl) rfl rfl rfl rfl (Nat.le_of_ble_eq_true rfl) rfl ?_ | refine step_store_agg 4 rfl rfl rfl (of_one rfl) rfl rfl rfl rfl (Nat.le_of_ble_eq_true rfl) rfl ?_ | refine step_store_agg 5 rfl rfl rfl (of_one rfl) rfl rfl rfl rfl (Nat.le_of_ble_eq_true rfl) rfl ?_
  refine qa rfl rfl ?_
  refine Vc.step_end (fun a w ok => ?_)
  first | (refine WPs.run ?_ a w ok; clear ok w a) | skip
  exact s_ret fun a w ok => ends_givesP on (.inr rfl) ok (res_cell_tmp (i := 0) Try.results66 rfl rfl rfl rfl rfl (Nat.le_of_ble_eq_true rfl) rfl rfl) utR_mono ⟨_, by unfold utFirst; rw [if_pos h1]; rfl, by unfold utFirst; rw [if_pos h1]; exact hv⟩
 have h1 := of_decide_eq_false h1
 repeat refine s_seqs ?_
 refine s_reg ?_
 refine qm rfl rfl ?_
 refine step_pure rfl (pure_lss rfl rfl) ?_
 refine qa rfl rfl ?_
 refine Vc.step_end (fun a w ok => ?_)
 first | (refine WPs.run ?_ a w ok; clear ok w a) | skip
 repeat refine s_seqs ?_
 refine s_meet [(0, .int .u8 b), (2, .pointer (some ⟨b2, 0, none⟩)), (15, .bool (decide (b < 194 ∨ 244 < b)))] [⟨b2, utC zUt, 23⟩] ?_ (fun a w ok => WPs.run ?_ a w ok)
 ·repeat refine c_seq ?_
  refine c_cond rfl (fun h => ?_) (fun h => ?_)
  ·refine c_skip (less_of ⟨rfl, rfl, ?_, trivial⟩ rfl)
   refine congrArg some (congrArg Value.bool ?_)
   simp_all
   try omega
  ·repeat refine c_seq ?_
   refine c_region ?_
   refine qm rfl rfl ?_
   refine step_pure rfl (pure_gtr rfl rfl) ?_
   refine qa rfl rfl ?_
   refine step_nil ?_
   refine less_of ⟨rfl, rfl, ?_, trivial⟩ rfl
   refine congrArg some (congrArg Value.bool ?_)
   simp_all
   try omega
 repeat refine s_seqs ?_
 refine s_cond rfl (fun h2 => ?_) (fun h2 => ?_)
 ·have h2 := of_decide_eq_true h2
  repeat refine s_seqs ?_
  refine s_reg ?_
  first | refine step_pure rfl (pure_load_agg (i := 0) rfl rfl rfl rfl rfl (by first | decide | exact Nat.le_of_ble_eq_true rfl) rfl) ?_ | refine step_pure rfl (pure_load_agg (i := 1) rfl rfl rfl rfl rfl (by first | decide | exact Nat.le_of_ble_eq_true rfl) rfl) ?_ | refine step_pure rfl (pure_load_agg (i := 2) rfl rfl rfl rfl rfl (by first | decide | exact Nat.le_of_ble_eq_true rfl) rfl) ?_ | refine step_pure rfl (pure_load_agg (i := 3) rfl rfl rfl rfl rfl (by first | decide | exact Nat.le_of_ble_eq_true rfl) rfl) ?_ | refine step_pure rfl (pure_load_agg (i := 4) rfl rfl rfl rfl rfl (by first | decide | exact Nat.le_of_ble_eq_true rfl) rfl) ?_ | refine step_pure rfl (pure_load_agg (i := 5) rfl rfl rfl rfl rfl (by first | decide | exact Nat.le_of_ble_eq_true rfl) rfl) ?_
  refine step_buildSlice rfl rfl rfl rfl elem3 (by decide) (by decide) (built_i _) (fun b21 => ?_)
  refine l_let 0 rfl (fun E2 g hc => ?_)
  have hv := slis_cz (sl_built uI tI b21 [.int .i64 65533] 1 rfl) (hc _ on.sc)
  replace on := on.next g
  clear g hc
  first | refine step_store_agg 0 rfl rfl rfl (by decide) rfl rfl rfl rfl (by decide) rfl ?_ | refine step_store_agg 1 rfl rfl rfl (by decide) rfl rfl rfl rfl (by decide) rfl ?_ | refine step_store_agg 2 rfl rfl rfl (by decide) rfl rfl rfl rfl (by decide) rfl ?_ | refine step_store_agg 3 rfl rfl rfl (by decide) rfl rfl rfl rfl (by decide) rfl ?_ | refine step_store_agg 4 rfl rfl rfl (by decide) rfl rfl rfl rfl (by decide) rfl ?_ | refine step_store_agg 5 rfl rfl rfl (by decide) rfl rfl rfl rfl (by decide) rfl ?_ | refine step_store_agg 0 rfl rfl rfl (of_one rfl) rfl rfl rfl rfl (Nat.le_of_ble_eq_true rfl) rfl ?_ | refine step_store_agg 1 rfl rfl rfl (of_one rfl) rfl rfl rfl rfl (Nat.le_of_ble_eq_true rfl) rfl ?_ | refine step_store_agg 2 rfl rfl rfl (of_one rfl) rfl rfl rfl rfl (Nat.le_of_ble_eq_true rfl) rfl ?_ | refine step_store_agg 3 rfl rfl rfl (of_one rfl) rfl rfl rfl rfl (Nat.le_of_ble_eq_true rfl) rfl ?_ | refine step_store_agg 4 rfl rfl rfl (of_one rfl) rfl rfl rfl rfl (Nat.le_of_ble_eq_true rfl) rfl ?_ | refine step_store_agg 5 rfl rfl rfl (of_one rfl) rfl rfl rfl rfl (Nat.le_of_ble_eq_true rfl) rfl ?_
  refine qa rfl rfl ?_
  refine Vc.step_end (fun a w ok => ?_)
  first | (refine WPs.run ?_ a w ok; clear ok w a) | skip
  exact s_ret fun a w ok => ends_givesP on (.inr rfl) ok (res_cell_tmp (i := 0) Try.results66 rfl rfl rfl rfl rfl (Nat.le_of_ble_eq_true rfl) rfl rfl) utR_mono ⟨_, by unfold utFirst; rw [if_neg h1, if_pos h2]; rfl, by unfold utFirst; rw [if_neg h1, if_pos h2]; exact hv⟩
 have h2 := of_decide_eq_false h2
 repeat refine s_seqs ?_
 refine s_reg ?_
 refine qm rfl rfl ?_
 refine step_pure rfl (pure_geq rfl rfl) ?_
 refine qa rfl rfl ?_
 refine Vc.step_end (fun a w ok => ?_)
 first | (refine WPs.run ?_ a w ok; clear ok w a) | skip
 repeat refine s_seqs ?_
 refine s_cond rfl (fun h3 => ?_) (fun h3 => ?_)
 ·have h3 : 240 ≤ b := of_decide_eq_true h3
  repeat refine s_seqs ?_
  refine s_reg ?_
  refine qm rfl rfl ?_
  refine step_pure rfl (pure_and rfl rfl) ?_
  refine step_pure rfl (pure_conv rfl rfl rfl rfl) ?_
  refine step_pure rfl (pure_build_struct (pl := [(0, 1), (1, 1), (2, 1)]) rfl zero23 rfl rfl rfl rfl) ?_
  first | refine step_store_agg 0 rfl rfl rfl (by decide) rfl rfl rfl rfl (by decide) rfl ?_ | refine step_store_agg 1 rfl rfl rfl (by decide) rfl rfl rfl rfl (by decide) rfl ?_ | refine step_store_agg 2 rfl rfl rfl (by decide) rfl rfl rfl rfl (by decide) rfl ?_ | refine step_store_agg 3 rfl rfl rfl (by decide) rfl rfl rfl rfl (by decide) rfl ?_ | refine step_store_agg 4 rfl rfl rfl (by decide) rfl rfl rfl rfl (by decide) rfl ?_ | refine step_store_agg 5 rfl rfl rfl (by decide) rfl rfl rfl rfl (by decide) rfl ?_ | refine step_store_agg 0 rfl rfl rfl (of_one rfl) rfl rfl rfl rfl (Nat.le_of_ble_eq_true rfl) rfl ?_ | refine step_store_agg 1 rfl rfl rfl (of_one rfl) rfl rfl rfl rfl (Nat.le_of_ble_eq_true rfl) rfl ?_ | refine step_store_agg 2 rfl rfl rfl (of_one rfl) rfl rfl rfl rfl (Nat.le_of_ble_eq_true rfl) rfl ?_ | refine step_store_agg 3 rfl rfl rfl (of_one rfl) rfl rfl rfl rfl (Nat.le_of_ble_eq_true rfl) rfl ?_ | refine step_store_agg 4 rfl rfl rfl (of_one rfl) rfl rfl rfl rfl (Nat.le_of_ble_eq_true rfl) rfl ?_ | refine step_store_agg 5 rfl rfl rfl (of_one rfl) rfl rfl rfl rfl (Nat.le_of_ble_eq_true rfl) rfl ?_
  refine Vc.step_end (fun a w ok => ?_)
  first | (refine WPs.run ?_ a w ok; clear ok w a) | skip
  repeat refine s_seqs ?_
  refine s_reg ?_
  first | refine step_pure rfl (pure_load_agg (i := 0) rfl rfl rfl rfl rfl (by first | decide | exact Nat.le_of_ble_eq_true rfl) rfl) ?_ | refine step_pure rfl (pure_load_agg (i := 1) rfl rfl rfl rfl rfl (by first | decide | exact Nat.le_of_ble_eq_true rfl) rfl) ?_ | refine step_pure rfl (pure_load_agg (i := 2) rfl rfl rfl rfl rfl (by first | decide | exact Nat.le_of_ble_eq_true rfl) rfl) ?_ | refine step_pure rfl (pure_load_agg (i := 3) rfl rfl rfl rfl rfl (by first | decide | exact Nat.le_of_ble_eq_true rfl) rfl) ?_ | refine step_pure rfl (pure_load_agg (i := 4) rfl rfl rfl rfl rfl (by first | decide | exact Nat.le_of_ble_eq_true rfl) rfl) ?_ | refine step_pure rfl (pure_load_agg (i := 5) rfl rfl rfl rfl rfl (by first | decide | exact Nat.le_of_ble_eq_true rfl) rfl) ?_
  first | refine step_store_agg 0 rfl rfl rfl (by decide) rfl rfl rfl rfl (by decide) rfl ?_ | refine step_store_agg 1 rfl rfl rfl (by decide) rfl rfl rfl rfl (by decide) rfl ?_ | refine step_store_agg 2 rfl rfl rfl (by decide) rfl rfl rfl rfl (by decide) rfl ?_ | refine step_store_agg 3 rfl rfl rfl (by decide) rfl rfl rfl rfl (by decide) rfl ?_ | refine step_store_agg 4 rfl rfl rfl (by decide) rfl rfl rfl rfl (by decide) rfl ?_ | refine step_store_agg 5 rfl rfl rfl (by decide) rfl rfl rfl rfl (by decide) rfl ?_ | refine step_store_agg 0 rfl rfl rfl (of_one rfl) rfl rfl rfl rfl (Nat.le_of_ble_eq_true rfl) rfl ?_ | refine step_store_agg 1 rfl rfl rfl (of_one rfl) rfl rfl rfl rfl (Nat.le_of_ble_eq_true rfl) rfl ?_ | refine step_store_agg 2 rfl rfl rfl (of_one rfl) rfl rfl rfl rfl (Nat.le_of_ble_eq_true rfl) rfl ?_ | refine step_store_agg 3 rfl rfl rfl (of_one rfl) rfl rfl rfl rfl (Nat.le_of_ble_eq_true rfl) rfl ?_ | refine step_store_agg 4 rfl rfl rfl (of_one rfl) rfl rfl rfl rfl (Nat.le_of_ble_eq_true rfl) rfl ?_ | refine step_store_agg 5 rfl rfl rfl (of_one rfl) rfl rfl rfl rfl (Nat.le_of_ble_eq_true rfl) rfl ?_
  refine qa rfl rfl ?_
  refine Vc.step_end (fun a w ok => ?_)
  first | (refine WPs.run ?_ a w ok; clear ok w a) | skip
  exact s_ret fun a w ok => ends_givesP on (.inr rfl) ok (res_cell_tmp (i := 0) Try.results66 rfl rfl rfl rfl rfl (Nat.le_of_ble_eq_true rfl) rfl rfl) utR_mono ⟨_, by unfold utFirst; rw [if_neg h1, if_neg h2, if_pos h3]; rfl, by unfold utFirst; rw [if_neg h1, if_neg h2, if_pos h3]; exact slc_nil⟩
 have h3 : ¬ 240 ≤ b := of_decide_eq_false h3
 repeat refine s_seqs ?_
 refine s_reg ?_
 refine qm rfl rfl ?_
 refine step_pure rfl (pure_geq rfl rfl) ?_
 refine qa rfl rfl ?_
 refine Vc.step_end (fun a w ok => ?_)
 first | (refine WPs.run ?_ a w ok; clear ok w a) | skip
 repeat refine s_seqs ?_
 refine s_cond rfl (fun h4 => ?_) (fun h4 => ?_)
 ·have h4 : 224 ≤ b := of_decide_eq_true h4
  repeat refine s_seqs ?_
  refine s_reg ?_
  refine qm rfl rfl ?_
  refine step_pure rfl (pure_and rfl rfl) ?_
  refine step_pure rfl (pure_conv rfl rfl rfl rfl) ?_
  refine step_pure rfl (pure_build_struct (pl := [(0, 1), (1, 1), (2, 1)]) rfl zero23 rfl rfl rfl rfl) ?_
  first | refine step_store_agg 0 rfl rfl rfl (by decide) rfl rfl rfl rfl (by decide) rfl ?_ | refine step_store_agg 1 rfl rfl rfl (by decide) rfl rfl rfl rfl (by decide) rfl ?_ | refine step_store_agg 2 rfl rfl rfl (by decide) rfl rfl rfl rfl (by decide) rfl ?_ | refine step_store_agg 3 rfl rfl rfl (by decide) rfl rfl rfl rfl (by decide) rfl ?_ | refine step_store_agg 4 rfl rfl rfl (by decide) rfl rfl rfl rfl (by decide) rfl ?_ | refine step_store_agg 5 rfl rfl rfl (by decide) rfl rfl rfl rfl (by decide) rfl ?_ | refine step_store_agg 0 rfl rfl rfl (of_one rfl) rfl rfl rfl rfl (Nat.le_of_ble_eq_true rfl) rfl ?_ | refine step_store_agg 1 rfl rfl rfl (of_one rfl) rfl rfl rfl rfl (Nat.le_of_ble_eq_true rfl) rfl ?_ | refine step_store_agg 2 rfl rfl rfl (of_one rfl) rfl rfl rfl rfl (Nat.le_of_ble_eq_true rfl) rfl ?_ | refine step_store_agg 3 rfl rfl rfl (of_one rfl) rfl rfl rfl rfl (Nat.le_of_ble_eq_true rfl) rfl ?_ | refine step_store_agg 4 rfl rfl rfl (of_one rfl) rfl rfl rfl rfl (Nat.le_of_ble_eq_true rfl) rfl ?_ | refine step_store_agg 5 rfl rfl rfl (of_one rfl) rfl rfl rfl rfl (Nat.le_of_ble_eq_true rfl) rfl ?_
  refine Vc.step_end (fun a w ok => ?_)
  first | (refine WPs.run ?_ a w ok; clear ok w a) | skip
  repeat refine s_seqs ?_
  refine s_reg ?_
  first | refine step_pure rfl (pure_load_agg (i := 0) rfl rfl rfl rfl rfl (by first | decide | exact Nat.le_of_ble_eq_true rfl) rfl) ?_ | refine step_pure rfl (pure_load_agg (i := 1) rfl rfl rfl rfl rfl (by first | decide | exact Nat.le_of_ble_eq_true rfl) rfl) ?_ | refine step_pure rfl (pure_load_agg (i := 2) rfl rfl rfl rfl rfl (by first | decide | exact Nat.le_of_ble_eq_true rfl) rfl) ?_ | refine step_pure rfl (pure_load_agg (i := 3) rfl rfl rfl rfl rfl (by first | decide | exact Nat.le_of_ble_eq_true rfl) rfl) ?_ | refine step_pure rfl (pure_load_agg (i := 4) rfl rfl rfl rfl rfl (by first | decide | exact Nat.le_of_ble_eq_true rfl) rfl) ?_ | refine step_pure rfl (pure_load_agg (i := 5) rfl rfl rfl rfl rfl (by first | decide | exact Nat.le_of_ble_eq_true rfl) rfl) ?_
  first | refine step_store_agg 0 rfl rfl rfl (by decide) rfl rfl rfl rfl (by decide) rfl ?_ | refine step_store_agg 1 rfl rfl rfl (by decide) rfl rfl rfl rfl (by decide) rfl ?_ | refine step_store_agg 2 rfl rfl rfl (by decide) rfl rfl rfl rfl (by decide) rfl ?_ | refine step_store_agg 3 rfl rfl rfl (by decide) rfl rfl rfl rfl (by decide) rfl ?_ | refine step_store_agg 4 rfl rfl rfl (by decide) rfl rfl rfl rfl (by decide) rfl ?_ | refine step_store_agg 5 rfl rfl rfl (by decide) rfl rfl rfl rfl (by decide) rfl ?_ | refine step_store_agg 0 rfl rfl rfl (of_one rfl) rfl rfl rfl rfl (Nat.le_of_ble_eq_true rfl) rfl ?_ | refine step_store_agg 1 rfl rfl rfl (of_one rfl) rfl rfl rfl rfl (Nat.le_of_ble_eq_true rfl) rfl ?_ | refine step_store_agg 2 rfl rfl rfl (of_one rfl) rfl rfl rfl rfl (Nat.le_of_ble_eq_true rfl) rfl ?_ | refine step_store_agg 3 rfl rfl rfl (of_one rfl) rfl rfl rfl rfl (Nat.le_of_ble_eq_true rfl) rfl ?_ | refine step_store_agg 4 rfl rfl rfl (of_one rfl) rfl rfl rfl rfl (Nat.le_of_ble_eq_true rfl) rfl ?_ | refine step_store_agg 5 rfl rfl rfl (of_one rfl) rfl rfl rfl rfl (Nat.le_of_ble_eq_true rfl) rfl ?_
  refine qa rfl rfl ?_
  refine Vc.step_end (fun a w ok => ?_)
  first | (refine WPs.run ?_ a w ok; clear ok w a) | skip
  exact s_ret fun a w ok => ends_givesP on (.inr rfl) ok (res_cell_tmp (i := 0) Try.results66 rfl rfl rfl rfl rfl (Nat.le_of_ble_eq_true rfl) rfl rfl) utR_mono ⟨_, by unfold utFirst; rw [if_neg h1, if_neg h2, if_neg h3, if_pos h4]; rfl, by unfold utFirst; rw [if_neg h1, if_neg h2, if_neg h3, if_pos h4]; exact slc_nil⟩
 have h4 : ¬ 224 ≤ b := of_decide_eq_false h4
 repeat refine s_seqs ?_
 refine s_reg ?_
 refine qm rfl rfl ?_
 refine step_pure rfl (pure_and rfl rfl) ?_
 refine step_pure rfl (pure_conv rfl rfl rfl rfl) ?_
 refine step_pure rfl (pure_build_struct (pl := [(0, 1), (1, 1), (2, 1)]) rfl zero23 rfl rfl rfl rfl) ?_
 first | refine step_store_agg 0 rfl rfl rfl (by decide) rfl rfl rfl rfl (by decide) rfl ?_ | refine step_store_agg 1 rfl rfl rfl (by decide) rfl rfl rfl rfl (by decide) rfl ?_ | refine step_store_agg 2 rfl rfl rfl (by decide) rfl rfl rfl rfl (by decide) rfl ?_ | refine step_store_agg 3 rfl rfl rfl (by decide) rfl rfl rfl rfl (by decide) rfl ?_ | refine step_store_agg 4 rfl rfl rfl (by decide) rfl rfl rfl rfl (by decide) rfl ?_ | refine step_store_agg 5 rfl rfl rfl (by decide) rfl rfl rfl rfl (by decide) rfl ?_ | refine step_store_agg 0 rfl rfl rfl (of_one rfl) rfl rfl rfl rfl (Nat.le_of_ble_eq_true rfl) rfl ?_ | refine step_store_agg 1 rfl rfl rfl (of_one rfl) rfl rfl rfl rfl (Nat.le_of_ble_eq_true rfl) rfl ?_ | refine step_store_agg 2 rfl rfl rfl (of_one rfl) rfl rfl rfl rfl (Nat.le_of_ble_eq_true rfl) rfl ?_ | refine step_store_agg 3 rfl rfl rfl (of_one rfl) rfl rfl rfl rfl (Nat.le_of_ble_eq_true rfl) rfl ?_ | refine step_store_agg 4 rfl rfl rfl (of_one rfl) rfl rfl rfl rfl (Nat.le_of_ble_eq_true rfl) rfl ?_ | refine step_store_agg 5 rfl rfl rfl (of_one rfl) rfl rfl rfl rfl (Nat.le_of_ble_eq_true rfl) rfl ?_
 refine Vc.step_end (fun a w ok => ?_)
 first | (refine WPs.run ?_ a w ok; clear ok w a) | skip
 repeat refine s_seqs ?_
 refine s_reg ?_
 first | refine step_pure rfl (pure_load_agg (i := 0) rfl rfl rfl rfl rfl (by first | decide | exact Nat.le_of_ble_eq_true rfl) rfl) ?_ | refine step_pure rfl (pure_load_agg (i := 1) rfl rfl rfl rfl rfl (by first | decide | exact Nat.le_of_ble_eq_true rfl) rfl) ?_ | refine step_pure rfl (pure_load_agg (i := 2) rfl rfl rfl rfl rfl (by first | decide | exact Nat.le_of_ble_eq_true rfl) rfl) ?_ | refine step_pure rfl (pure_load_agg (i := 3) rfl rfl rfl rfl rfl (by first | decide | exact Nat.le_of_ble_eq_true rfl) rfl) ?_ | refine step_pure rfl (pure_load_agg (i := 4) rfl rfl rfl rfl rfl (by first | decide | exact Nat.le_of_ble_eq_true rfl) rfl) ?_ | refine step_pure rfl (pure_load_agg (i := 5) rfl rfl rfl rfl rfl (by first | decide | exact Nat.le_of_ble_eq_true rfl) rfl) ?_
 first | refine step_store_agg 0 rfl rfl rfl (by decide) rfl rfl rfl rfl (by decide) rfl ?_ | refine step_store_agg 1 rfl rfl rfl (by decide) rfl rfl rfl rfl (by decide) rfl ?_ | refine step_store_agg 2 rfl rfl rfl (by decide) rfl rfl rfl rfl (by decide) rfl ?_ | refine step_store_agg 3 rfl rfl rfl (by decide) rfl rfl rfl rfl (by decide) rfl ?_ | refine step_store_agg 4 rfl rfl rfl (by decide) rfl rfl rfl rfl (by decide) rfl ?_ | refine step_store_agg 5 rfl rfl rfl (by decide) rfl rfl rfl rfl (by decide) rfl ?_ | refine step_store_agg 0 rfl rfl rfl (of_one rfl) rfl rfl rfl rfl (Nat.le_of_ble_eq_true rfl) rfl ?_ | refine step_store_agg 1 rfl rfl rfl (of_one rfl) rfl rfl rfl rfl (Nat.le_of_ble_eq_true rfl) rfl ?_ | refine step_store_agg 2 rfl rfl rfl (of_one rfl) rfl rfl rfl rfl (Nat.le_of_ble_eq_true rfl) rfl ?_ | refine step_store_agg 3 rfl rfl rfl (of_one rfl) rfl rfl rfl rfl (Nat.le_of_ble_eq_true rfl) rfl ?_ | refine step_store_agg 4 rfl rfl rfl (of_one rfl) rfl rfl rfl rfl (Nat.le_of_ble_eq_true rfl) rfl ?_ | refine step_store_agg 5 rfl rfl rfl (of_one rfl) rfl rfl rfl rfl (Nat.le_of_ble_eq_true rfl) rfl ?_
 refine qa rfl rfl ?_
 refine Vc.step_end (fun a w ok => ?_)
 first | (refine WPs.run ?_ a w ok; clear ok w a) | skip
 exact s_ret fun a w ok => ends_givesP on (.inr rfl) ok (res_cell_tmp (i := 0) Try.results66 rfl rfl rfl rfl rfl (Nat.le_of_ble_eq_true rfl) rfl rfl) utR_mono ⟨_, by unfold utFirst; rw [if_neg h1, if_neg h2, if_neg h3, if_neg h4]; rfl, by unfold utFirst; rw [if_neg h1, if_neg h2, if_neg h3, if_neg h4]; exact slc_nil⟩
end Go.Proofs.Ytadginombcjbeaa
/- Two operations of a region that may come up in either order. -/
namespace Go.Vc
open Go.RowKit
set_option linter.unusedVariables false
def depB (all : List Oper) (k i : Nat) : Bool := match nth all k with | some o => o.after.any (fun e => Region.binds .any e && Nat.beq e.on i) | none => false
theorem ready_set {md : Region.Mode} {ops : Array Oper} {listed : Array Bool} {i x : Nat} (hx : x ∈ Region.ready md ops listed) (hne : i ≠ x) : x ∈ Region.ready md ops (listed.setIfInBounds i true) := by
 obtain ⟨h0, o, ho, hall⟩ := mem_ready.1 hx
 exact mem_ready.2 ⟨by rw [getD_set_ne true hne]; exact h0, o, ho, fun e he hb => getD_set_true (hall e he hb)⟩
theorem ready_off {md : Region.Mode} {ops : Array Oper} {listed : Array Bool} {x : Nat} (hx : x ∈ Region.ready md ops listed) : listed.getD x false = false := by
 obtain ⟨h0, _⟩ := mem_ready.1 hx
 exact getD_false_of h0
section
variable {B : Tb} {E : Env} {n : Nat} {all : List Oper} {rs : Rs} {m : Mem} {K : Act → World → Prop} {mS : Mem} {codes r3 : List Nat} {c1 c2 c3 : Nat} {o1 o2 : Oper}
theorem at_op {c : Nat} {o : Oper} (ho : opOf all c = some o) : all.toArray[cIx c]? = some o := by
 unfold opOf at ho
 rw [nth_eq] at ho
 simpa using ho
/-- One operation that is taken now. -/
theorem take_op {c : Nat} {o : Oper} {Q : Act → World → Prop} {listed : Array Bool} {a : Act} {w2 : World} {R : Value → Mem → Prop} {rest : List Nat}
  (hi : all.toArray[cIx c]? = some o) (hw : wants all rs o = some true) (hd : dOk n o.dst = true) (he : Eff B E rs m o R) (ok : Ok E n rs m a w2)
  (hsub : ∀ v m', R v m' → needsOf codes (cIx c) = true → SubMem m' mS)
  (fin : ∀ v m' w', R v m' → Ok E n (put rs o.dst v) m' (a.put o.dst v) w' → anyN B.P .any all.toArray (nq Q) (fun w => Keep E.w0 w E.ws) (fun w => Has w mS) (needsOf codes) rest.length (listed.setIfInBounds (cIx c) true) (a.put o.dst v) w') :
  Go.wpOp B.P all.toArray (nq Q) (cIx c) (fun a' w' => Keep E.w0 w' E.ws ∧ (needsOf codes (cIx c) = true → Has w2 mS → Has w' mS) ∧
   anyN B.P .any all.toArray (nq Q) (fun w => Keep E.w0 w E.ws) (fun w => Has w mS) (needsOf codes) rest.length (listed.setIfInBounds (cIx c) true) a' w') a w2 := by
 obtain ⟨x, w', v, m', hrun, hx, h1, h2, h3, hR⟩ := he.run a w2 ok.regs ok.has ok.own ok.keep
 have ok3 : Ok E n (put rs o.dst v) m' (a.put o.dst v) w' := ⟨(put_size ..).trans ok.size, (put_defers ..).trans ok.defers, put_regs ok.size hd ok.regs, h1, h2, h3⟩
 have f := fin v m' w' hR ok3
 unfold Go.wpOp
 simp only [hi]
 rw [if_pos (wants_ok ok.regs hw)]
 left
 unfold Oper.wp
 rw [hrun]
 have key : Keep E.w0 w' E.ws ∧ (needsOf codes (cIx c) = true → Has w2 mS → Has w' mS) ∧
   anyN B.P .any all.toArray (nq Q) (fun w => Keep E.w0 w E.ws) (fun w => Has w mS) (needsOf codes) rest.length (listed.setIfInBounds (cIx c) true) (a.put o.dst v) w' :=
  ⟨h3, fun hb _ => hsub v m' hR hb w' h1, f⟩
 rcases hx with rfl | ⟨rfl, rfl⟩
 ·exact key
 ·exact key
theorem d_forkE {R1 R2' : Value → Mem → Prop} {R2 R1' : Value → Mem → Value → Mem → Prop}
  (ho1 : opOf all c1 = some o1) (hk : Nat.beq (cKd c1) 2 = false) (ho2 : opOf all c2 = some o2) (hk2 : cKd c2 = 2) (hk3 : cKd c3 = 2)
  (hdep : depB all (cIx c3) (cIx c1) = true) (hij : cIx c1 ≠ cIx c2)
  (hw1 : wants all rs o1 = some true) (hd1 : dOk n o1.dst = true) (he1 : Eff B E rs m o1 R1)
  (hw2 : ∀ v, wants all (put rs o1.dst v) o2 = some true) (hd2 : dOk n o2.dst = true) (he2 : ∀ v m1, R1 v m1 → Eff B E (put rs o1.dst v) m1 o2 (R2 v m1))
  (hw2' : wants all rs o2 = some true) (he2' : Eff B E rs m o2 R2')
  (hw1' : ∀ v, wants all (put rs o2.dst v) o1 = some true) (he1' : ∀ v m2, R2' v m2 → Eff B E (put rs o2.dst v) m2 o1 (R1' v m2))
  (hs1 : ∀ v m', R1 v m' → needsOf codes (cIx c1) = true → SubMem m' mS) (hs2 : ∀ v m1 v2 m2, R1 v m1 → R2 v m1 v2 m2 → needsOf codes (cIx c2) = true → SubMem m2 mS)
  (hs2' : ∀ v m', R2' v m' → needsOf codes (cIx c2) = true → SubMem m' mS) (hs1' : ∀ v m2 v1 m1, R2' v m2 → R1' v m2 v1 m1 → needsOf codes (cIx c1) = true → SubMem m1 mS)
  (h : ∀ v m1 v2 m2, R1 v m1 → R2 v m1 v2 m2 → WPd B E n all mS codes (c3 :: r3) (put (put rs o1.dst v) o2.dst v2) m2 K)
  (h' : ∀ v m2 v1 m1, R2' v m2 → R1' v m2 v1 m1 → WPd B E n all mS codes (c3 :: r3) (put (put rs o2.dst v) o1.dst v1) m1 K) :
  WPd B E n all mS codes (c1 :: c2 :: c3 :: r3) rs m K := by
 refine ⟨fun Q hQ hsel hbm listed hp hcl a w ok => ?_⟩
 have hi := at_op ho1
 have hj := at_op ho2
 unfold planFrom at hp
 simp only [hk, cond_false, Bool.and_eq_true] at hp
 obtain ⟨⟨hri, _⟩, hp1⟩ := hp
 have hri : cIx c1 ∈ Region.ready .any all.toArray listed := by simpa using hri
 have hp1' := hp1
 simp only [planFrom, hk2, hk3, Nat.beq_refl, cond_true, Bool.and_eq_true, decide_eq_true_eq] at hp1'
 obtain ⟨hrj, hrk, hp3⟩ := hp1'
 have hcomm : (listed.setIfInBounds (cIx c2) true).setIfInBounds (cIx c1) true = (listed.setIfInBounds (cIx c1) true).setIfInBounds (cIx c2) true := Array.setIfInBounds_comm true true hij.symm
 have hp33 : planFrom all.toArray (bmOf all) (needsOf codes) (c3 :: r3) ((listed.setIfInBounds (cIx c1) true).setIfInBounds (cIx c2) true) = true := by
  simp only [planFrom, hk3, Nat.beq_refl, cond_true, Bool.and_eq_true, decide_eq_true_eq]
  exact ⟨hrk, hp3⟩
 have hcl1 := hcl.set hri
 have hcl2 := hcl1.set (i := cIx c2) (by rw [hrj]; simp)
 intro w2 hkp
 refine ⟨fun h0 => (by rw [h0] at hri; cases hri), fun x hx => ?_⟩
 have ok2 := ok.grow hkp
 by_cases hxi : cIx c1 = x
 ·subst hxi
  refine take_op (rest := c2 :: c3 :: r3) hi hw1 hd1 he1 ok2 hs1 fun v m' w' hR ok3 => ?_
  show anyN B.P .any all.toArray (nq Q) (fun w => Keep E.w0 w E.ws) (fun w => Has w mS) (needsOf codes) (r3.length + 1 + 1) _ _ _
  refine anyN_only hrj fun w4 hkp4 => ?_
  refine take_op (rest := c3 :: r3) hj (hw2 v) hd2 (he2 v m' hR) (ok3.grow hkp4) (fun v2 m2 hR2 => hs2 v m' v2 m2 hR hR2) fun v2 m2 w5 hR2 ok5 => ?_
  exact (h v m' v2 m2 hR hR2).run Q hQ hsel hbm _ hp33 hcl2 _ _ ok5
 ·have hx2 := ready_set hx hxi
  rw [hrj] at hx2
  have hxj : x = cIx c2 := by simpa using hx2
  subst hxj
  have hr1 : Region.ready .any all.toArray (listed.setIfInBounds (cIx c2) true) = [cIx c1] := by
   have hmem := ready_set hri hij.symm
   have hall : ∀ y ∈ Region.ready .any all.toArray (listed.setIfInBounds (cIx c2) true), y = cIx c1 := by
    intro y hy
    by_cases hyi : cIx c1 = y
    ·exact hyi.symm
    ·exfalso
     have hy2 := ready_set hy hyi
     rw [hcomm, hrk] at hy2
     have hyk : y = cIx c3 := by simpa using hy2
     subst hyk
     obtain ⟨_, o, ho3, hdd⟩ := mem_ready.1 hy
     unfold depB at hdep
     rw [nth_eq] at hdep
     have ho3' : all[cIx c3]? = some o := by simpa using ho3
     rw [ho3'] at hdep
     obtain ⟨e, he, hb⟩ := Array.any_eq_true'.1 hdep
     rw [Bool.and_eq_true] at hb
     have hon : e.on = cIx c1 := Nat.eq_of_beq_eq_true hb.2
     have hl := hdd e he hb.1
     rw [hon, getD_set_ne false hij.symm, ready_off hri] at hl
     cases hl
   have hnd : (Region.ready .any all.toArray (listed.setIfInBounds (cIx c2) true)).Nodup := by
    unfold Region.ready
    exact List.Pairwise.filter _ List.nodup_range
   generalize Region.ready .any all.toArray (listed.setIfInBounds (cIx c2) true) = L at *
   match L, hmem, hall, hnd with
   | [y], _, hall, _ => rw [hall y (.head _)]
   | y :: z :: L, _, hall, hnd =>
    have e1 := hall y (.head _)
    have e2 := hall z (.tail _ (.head _))
    rw [e1, e2] at hnd
    simp at hnd
  refine take_op (rest := c1 :: c3 :: r3) hj hw2' hd2 he2' ok2 hs2' fun v m' w' hR ok3 => ?_
  show anyN B.P .any all.toArray (nq Q) (fun w => Keep E.w0 w E.ws) (fun w => Has w mS) (needsOf codes) (r3.length + 1 + 1) _ _ _
  refine anyN_only hr1 fun w4 hkp4 => ?_
  refine take_op (rest := c3 :: r3) hi (hw1' v) hd1 (he1' v m' hR) (ok3.grow hkp4) (fun v1 m1 hR1 => hs1' v m' v1 m1 hR hR1) fun v1 m1 w5 hR1 ok5 => ?_
  exact (h' v m' v1 m1 hR hR1).run Q hQ hsel hbm _ (by rw [hcomm]; exact hp33) (by rw [hcomm]; exact hcl2) _ _ ok5
variable {dst : Option Tmp} {ty : TypeId} {pos : String} {aft : Array Edge} {gd : Option (Nat × Bool)} {ty2 : TypeId} {pos2 : String} {aft2 : Array Edge} {gd2 : Option (Nat × Bool)}
/-- A slice literal, and what is stored. -/
theorem d_forkBS {T eT : TypeId} {len f : Nat} {ps : List (Nat × Operand)} {vs : List (Nat × Value)} {d u : Ty} {z cs : List Value} {bytes : Nat}
  {T2 : TypeId} {x y : Operand} {b off : Nat} {e : Ent} {d2 : Ty} {vs2 cl : List Value} (i : Nat)
  (ho1 : opOf all c1 = some ⟨dst, .buildSlice T len ps.toArray, ty, pos, aft, gd⟩) (hk : Nat.beq (cKd c1) 2 = false)
  (hc : chk all n rs ⟨dst, .buildSlice T len ps.toArray, ty, pos, aft, gd⟩ = some f) (hv : evp rs ps = some vs)
  (hT : B.ty T = some d) (hd : d.desc = .slice eT) (hz : ElemIs B eT u bytes z) (hpos : len * u.size ≠ 0) (hle : len * u.size ≤ 16777216)
  (hf : fillL (fun i => some (i * u.size, u.size)) (rowOf z (len * u.size)) vs = some cs)
  (ho2 : opOf all c2 = some ⟨none, .store T2 x y, ty2, pos2, aft2, gd2⟩) (hk2 : cKd c2 = 2) (hk3 : cKd c3 = 2) (hdep : depB all (cIx c3) (cIx c1) = true) (hij : cIx c1 ≠ cIx c2)
  (hw : wants all rs ⟨none, .store T2 x y, ty2, pos2, aft2, gd2⟩ = some true) (hw' : ∀ v, wants all ((f, v) :: rs) ⟨none, .store T2 x y, ty2, pos2, aft2, gd2⟩ = some true)
  (hx : ev rs x = some (.pointer (some ⟨b, off, none⟩))) (hx' : ∀ v, ev ((f, v) :: rs) x = some (.pointer (some ⟨b, off, none⟩))) (hy : ev rs y = some (.agg vs2.toArray)) (hy' : ∀ v, ev ((f, v) :: rs) y = some (.agg vs2.toArray))
  (h1 : ∀ v ∈ vs2, v.oneCell' = true) (hT2 : B.ty T2 = some d2) (hs : vs2.length = d2.size) (he : nth m i = some e) (hb : e.blk = b) (hl : off + d2.size ≤ e.cells.length) (hcl : splice e.cells off vs2 = cl)
  (hsA : SubMem m mS) (hsB : SubMem (setAt m i cl) mS)
  (h : ∀ b, WPd B E n all mS codes (c3 :: r3) ((f, .slice (some ⟨b, 0, none⟩) len len) :: rs) (⟨b, cs, eT⟩ :: setAt m i cl) K) :
  WPd B E n all mS codes (c1 :: c2 :: c3 :: r3) rs m K := by
 obtain ⟨g1, g2, g3⟩ := chk_ok hc
 have g2 : dst = some f := g2
 subst g2
 refine d_forkE (R2 := fun _ m1 v2 m2 => v2 = undef ∧ m2 = setAt m1 (i + 1) cl) (R1' := fun _ m2 v1 m1 => ∃ b, v1 = .slice (some ⟨b, 0, none⟩) len len ∧ m1 = ⟨b, cs, eT⟩ :: m2) ho1 hk ho2 hk2 hk3 hdep hij g1 g3 (eff_buildSlice hv hT hd hz hpos hle hf) hw' rfl
  (fun v m1 hv1 => (by obtain ⟨b', rfl, rfl⟩ := hv1; exact eff_store (i := i + 1) (hx' _) (hy' _) rfl hT2 hs h1 (show nth (_ :: m) (i + 1) = some e from he) hb hl hcl))
  hw (eff_store hx hy rfl hT2 hs h1 he hb hl hcl) (fun _ => g1) (fun v m2 _ => eff_buildSlice hv hT hd hz hpos hle hf)
  (fun v m' h1 _ => (by obtain ⟨b', rfl, rfl⟩ := h1; exact hsA.cons)) (fun v m1 v2 m2 h1 h2 _ => (by obtain ⟨b', rfl, rfl⟩ := h1; obtain ⟨rfl, rfl⟩ := h2; exact hsB.cons))
  (fun v m' h1 _ => (by obtain ⟨rfl, rfl⟩ := h1; exact hsB)) (fun v m2 v1 m1 h1 h2 _ => (by obtain ⟨rfl, rfl⟩ := h1; obtain ⟨b', rfl, rfl⟩ := h2; exact hsB.cons))
  (fun v m1 v2 m2 h1 h2 => (by obtain ⟨b', rfl, rfl⟩ := h1; obtain ⟨rfl, rfl⟩ := h2; exact h b')) (fun v m2 v1 m1 h1 h2 => (by obtain ⟨rfl, rfl⟩ := h1; obtain ⟨b', rfl, rfl⟩ := h2; exact h b'))
/-- What is stored, what is read kept. -/
theorem d_store_agg2 {T : TypeId} {x y : Operand} {b off : Nat} {e : Ent} {d : Ty} {vs : List Value} {cl : List Value} {c : Nat} {rest : List Nat} (i : Nat)
  (ho : opOf all c = some ⟨none, .store T x y, ty, pos, aft, gd⟩) (hk : cKd c = 2)
  (hw : wants all rs ⟨none, .store T x y, ty, pos, aft, gd⟩ = some true)
  (hx : ev rs x = some (.pointer (some ⟨b, off, none⟩))) (hy : ev rs y = some (.agg vs.toArray)) (hv : ∀ v ∈ vs, v.oneCell' = true) (hT : B.ty T = some d)
  (hs : vs.length = d.size) (he : nth m i = some e) (hb : e.blk = b) (hl : off + d.size ≤ e.cells.length) (hc : splice e.cells off vs = cl)
  (hn : needsOf codes (cIx c) = cNd c) (hsub : SubMem (setAt m i cl) mS)
  (h : WPd B E n all mS codes rest rs (setAt m i cl) K) : WPd B E n all mS codes (c :: rest) rs m K := by
 refine d_only ho hk hw rfl (eff_store (vs := vs) (c := cl) hx hy rfl hT hs hv he hb hl hc) ?_ hn
 rintro v' m' ⟨rfl, rfl⟩; exact ⟨fun _ => hsub, h⟩
end
end Go.Vc
/- Bytes to runes, one and all: walked. -/
namespace Go.Proofs.Ytadginombcjbeaa
open Go.RowKit Go.Vc
set_option linter.unusedVariables false
abbrev tU : TypeId := 23
theorem ints_one (k : IntKind) (l : List Int) : ∀ v ∈ ints k l, v.oneCell' = true := by
 intro v hv
 obtain ⟨n, _, rfl⟩ := List.mem_map.1 hv
 rfl
theorem ints_len (k : IntKind) (l : List Int) : (ints k l).length = l.length := List.length_map ..
theorem ut_res (u : Ut) : ∀ v ∈ utC u, v.oneCell' = true := of_one rfl
set_option maxHeartbeats 2000000 in
theorem step_P (u : Ut) (b : Int) (w : World) {Z : Nat → Prop} (hZ : ∀ j, w.heap.size ≤ j → Z j) : GivesP tb 35 [.agg (utC u).toArray, .int .u8 b] w Z (UtR (utStep u b)) := by
 refine givesP_of (fn := Try.f35) Try.func35 rfl Try.ntmps35 rfl hZ utR_mono (fun on => ?_)
 have hgo := fun w => goes_any u w
 unfold utStep
 repeat refine s_seqs ?_
 refine s_reg ?_
 refine step_box_agg rfl rfl (fun b2 => ?_)
 refine step_alloc rfl zero23 (fun b4 => ?_)
 refine qa rfl rfl ?_
 refine Vc.step_end (fun a w ok => ?_)
 first | (refine WPs.run ?_ a w ok; clear ok w a) | skip
 cases hg : utGoes u with
 | false =>
  rw [hg] at hgo
  rw [if_neg (by decide)]
  repeat refine s_seqs ?_
  refine s_reg ?_
  first | refine step_pure rfl (pure_load_agg (i := 0) rfl rfl rfl rfl rfl (by first | decide | exact Nat.le_of_ble_eq_true rfl) rfl) ?_ | refine step_pure rfl (pure_load_agg (i := 1) rfl rfl rfl rfl rfl (by first | decide | exact Nat.le_of_ble_eq_true rfl) rfl) ?_ | refine step_pure rfl (pure_load_agg (i := 2) rfl rfl rfl rfl rfl (by first | decide | exact Nat.le_of_ble_eq_true rfl) rfl) ?_ | refine step_pure rfl (pure_load_agg (i := 3) rfl rfl rfl rfl rfl (by first | decide | exact Nat.le_of_ble_eq_true rfl) rfl) ?_ | refine step_pure rfl (pure_load_agg (i := 4) rfl rfl rfl rfl rfl (by first | decide | exact Nat.le_of_ble_eq_true rfl) rfl) ?_ | refine step_pure rfl (pure_load_agg (i := 5) rfl rfl rfl rfl rfl (by first | decide | exact Nat.le_of_ble_eq_true rfl) rfl) ?_
  refine step_gives rfl fun65 rfl (fun w _ _ => hgo w) ?_
  refine step_pure rfl (pure_not rfl) ?_
  refine Vc.step_end (fun a w ok => ?_)
  first | (refine WPs.run ?_ a w ok; clear ok w a) | skip
  repeat refine s_seqs ?_
  refine s_cond_yes rfl rfl ?_
  repeat refine s_seqs ?_
  refine s_reg ?_
  refine qm rfl rfl ?_
  refine step_givesP on.sc rfl fun66 rfl (fun w' Z' hh kp hZ hC => first_P b w' hZ) ?_
  rintro x E1 g ⟨v, rfl, hv⟩
  replace on := on.next g
  clear g
  refine qx rfl rfl rfl ?_
  refine qx rfl rfl rfl ?_
  first | refine step_store_agg 0 rfl rfl rfl (by decide) rfl rfl rfl rfl (by decide) rfl ?_ | refine step_store_agg 1 rfl rfl rfl (by decide) rfl rfl rfl rfl (by decide) rfl ?_ | refine step_store_agg 2 rfl rfl rfl (by decide) rfl rfl rfl rfl (by decide) rfl ?_ | refine step_store_agg 3 rfl rfl rfl (by decide) rfl rfl rfl rfl (by decide) rfl ?_ | refine step_store_agg 4 rfl rfl rfl (by decide) rfl rfl rfl rfl (by decide) rfl ?_ | refine step_store_agg 5 rfl rfl rfl (by decide) rfl rfl rfl rfl (by decide) rfl ?_ | refine step_store_agg 0 rfl rfl rfl (of_one rfl) rfl rfl rfl rfl (Nat.le_of_ble_eq_true rfl) rfl ?_ | refine step_store_agg 1 rfl rfl rfl (of_one rfl) rfl rfl rfl rfl (Nat.le_of_ble_eq_true rfl) rfl ?_ | refine step_store_agg 2 rfl rfl rfl (of_one rfl) rfl rfl rfl rfl (Nat.le_of_ble_eq_true rfl) rfl ?_ | refine step_store_agg 3 rfl rfl rfl (of_one rfl) rfl rfl rfl rfl (Nat.le_of_ble_eq_true rfl) rfl ?_ | refine step_store_agg 4 rfl rfl rfl (of_one rfl) rfl rfl rfl rfl (Nat.le_of_ble_eq_true rfl) rfl ?_ | refine step_store_agg 5 rfl rfl rfl (of_one rfl) rfl rfl rfl rfl (Nat.le_of_ble_eq_true rfl) rfl ?_
  refine qa rfl rfl ?_
  refine Vc.step_end (fun a w ok => ?_)
  first | (refine WPs.run ?_ a w ok; clear ok w a) | skip
  exact s_ret fun a w ok => ends_givesP on (.inr rfl) ok (res_cell_tmp (i := 0) Try.results35 rfl rfl rfl rfl rfl (Nat.le_of_ble_eq_true rfl) rfl rfl) utR_mono ⟨v, rfl, hv⟩
 | true =>
  have hr := of_decide_eq_true (show decide _ = true from hg)
  rw [hg] at hgo
  rw [if_pos rfl]
  repeat refine s_seqs ?_
  refine s_reg ?_
  first | refine step_pure rfl (pure_load_agg (i := 0) rfl rfl rfl rfl rfl (by first | decide | exact Nat.le_of_ble_eq_true rfl) rfl) ?_ | refine step_pure rfl (pure_load_agg (i := 1) rfl rfl rfl rfl rfl (by first | decide | exact Nat.le_of_ble_eq_true rfl) rfl) ?_ | refine step_pure rfl (pure_load_agg (i := 2) rfl rfl rfl rfl rfl (by first | decide | exact Nat.le_of_ble_eq_true rfl) rfl) ?_ | refine step_pure rfl (pure_load_agg (i := 3) rfl rfl rfl rfl rfl (by first | decide | exact Nat.le_of_ble_eq_true rfl) rfl) ?_ | refine step_pure rfl (pure_load_agg (i := 4) rfl rfl rfl rfl rfl (by first | decide | exact Nat.le_of_ble_eq_true rfl) rfl) ?_ | refine step_pure rfl (pure_load_agg (i := 5) rfl rfl rfl rfl rfl (by first | decide | exact Nat.le_of_ble_eq_true rfl) rfl) ?_
  refine step_gives rfl fun65 rfl (fun w _ _ => hgo w) ?_
  refine step_pure rfl (pure_not rfl) ?_
  refine Vc.step_end (fun a w ok => ?_)
  first | (refine WPs.run ?_ a w ok; clear ok w a) | skip
  repeat refine s_seqs ?_
  refine s_cond_no rfl rfl ?_
  refine s_skip fun a w ok => WPs.run ?_ a w ok
  clear ok w a
  clear hgo hg
  repeat refine s_seqs ?_
  refine s_reg ?_
  refine qm rfl rfl ?_
  refine step_pure rfl (pure_and rfl rfl) ?_
  refine step_pure rfl (pure_neq rfl rfl) ?_
  refine Vc.step_end (fun a w ok => ?_)
  first | (refine WPs.run ?_ a w ok; clear ok w a) | skip
  repeat refine s_seqs ?_
  refine s_cond rfl (fun h => ?_) (fun h => ?_)
  ·rw [bne_iff_ne] at h
   rw [if_neg h]
   repeat refine s_seqs ?_
   refine s_reg ?_
   refine qm rfl rfl ?_
   refine step_givesP on.sc rfl fun66 rfl (fun w' Z' hh kp hZ hC => first_P b w' hZ) ?_
   rintro x E1 g ⟨v, rfl, hv⟩
   replace on := on.next g
   clear g
   obtain ⟨base0, cap0, rfl, _⟩ := slc_sl hv
   refine qm rfl rfl ?_
   refine qx rfl rfl rfl ?_
   refine qx rfl rfl rfl ?_
   refine step_alloc rfl zero23 (fun b6 => ?_)
   first | refine step_store_agg 0 rfl rfl rfl (by decide) rfl rfl rfl rfl (by decide) rfl ?_ | refine step_store_agg 1 rfl rfl rfl (by decide) rfl rfl rfl rfl (by decide) rfl ?_ | refine step_store_agg 2 rfl rfl rfl (by decide) rfl rfl rfl rfl (by decide) rfl ?_ | refine step_store_agg 3 rfl rfl rfl (by decide) rfl rfl rfl rfl (by decide) rfl ?_ | refine step_store_agg 4 rfl rfl rfl (by decide) rfl rfl rfl rfl (by decide) rfl ?_ | refine step_store_agg 5 rfl rfl rfl (by decide) rfl rfl rfl rfl (by decide) rfl ?_ | refine step_store_agg 0 rfl rfl rfl (of_one rfl) rfl rfl rfl rfl (Nat.le_of_ble_eq_true rfl) rfl ?_ | refine step_store_agg 1 rfl rfl rfl (of_one rfl) rfl rfl rfl rfl (Nat.le_of_ble_eq_true rfl) rfl ?_ | refine step_store_agg 2 rfl rfl rfl (of_one rfl) rfl rfl rfl rfl (Nat.le_of_ble_eq_true rfl) rfl ?_ | refine step_store_agg 3 rfl rfl rfl (of_one rfl) rfl rfl rfl rfl (Nat.le_of_ble_eq_true rfl) rfl ?_ | refine step_store_agg 4 rfl rfl rfl (of_one rfl) rfl rfl rfl rfl (Nat.le_of_ble_eq_true rfl) rfl ?_ | refine step_store_agg 5 rfl rfl rfl (of_one rfl) rfl rfl rfl rfl (Nat.le_of_ble_eq_true rfl) rfl ?_
   refine qa rfl rfl ?_
   refine Vc.step_end (fun a w ok => ?_)
   first | (refine WPs.run ?_ a w ok; clear ok w a) | skip
   have hfl := utFirst_len b
   repeat refine s_seqs ?_
   refine s_dreg [3, 17, 13, 29, 36, 41] ([⟨b6, utC (utFirst b).1, tU⟩]) follows (by kernel_rfl) ?_
   refine d_pure1 rfl rfl rfl (pure_load_agg (i := 0) rfl rfl rfl rfl rfl (Nat.le_of_ble_eq_true rfl) rfl) (by first | exact SubMem.refl _ | exact (SubMem.refl _).cons | exact (SubMem.refl _).cons.cons | exact (SubMem.refl _).cons.cons.cons | exact (SubMem.refl _).cons.cons.cons.cons | exact (fun w hh => Has.sublist (by repeat (first | exact List.Sublist.refl _ | exact List.nil_sublist _ | apply List.Sublist.cons_cons | apply List.Sublist.cons)) hh)) ?_
   refine qd rfl rfl rfl rfl ?_
   refine d_buildSlice rfl rfl rfl rfl rfl rfl elem3 (by decide) (by decide) (built_i 65533) (by first | exact SubMem.refl _ | exact (SubMem.refl _).cons | exact (SubMem.refl _).cons.cons | exact (SubMem.refl _).cons.cons.cons | exact (SubMem.refl _).cons.cons.cons.cons | exact (fun w hh => Has.sublist (by repeat (first | exact List.Sublist.refl _ | exact List.nil_sublist _ | apply List.Sublist.cons_cons | apply List.Sublist.cons)) hh)) rfl (fun b24 => ?_)
   refine d_append2 0 rfl rfl rfl rfl (sl_built uI tI b24 [.int .i64 65533] 1 rfl) rfl rfl rfl rfl rfl elem3 rfl (by decide) rfl rfl (by rw [ints_len]; exact (Nat.mul_one _).symm) (src_slc (k := (utFirst b).2.length) (fun w' hh kp => hv.mono (Cz.now kp))) (ints_one _ _) (by omega) (by omega) rfl (fun _ => (by first | exact SubMem.refl _ | exact (SubMem.refl _).cons | exact (SubMem.refl _).cons.cons | exact (SubMem.refl _).cons.cons.cons | exact (SubMem.refl _).cons.cons.cons.cons | exact (fun w hh => Has.sublist (by repeat (first | exact List.Sublist.refl _ | exact List.nil_sublist _ | apply List.Sublist.cons_cons | apply List.Sublist.cons)) hh))) (fun base3 cap3 e3 hs3 => ?_)
   refine d_store_agg 2 rfl rfl rfl rfl rfl (of_one rfl) rfl rfl rfl rfl (Nat.le_of_ble_eq_true rfl) rfl rfl rfl ?_
   refine d_pure0 rfl rfl rfl (pure_assign rfl) ?_
   refine d_end (fun a w ok => ?_)
   first | (refine WPs.run ?_ a w ok; clear ok w a) | skip
   refine s_let 0 rfl (fun E2 g hc => ?_)
   have hv3 := slis_cz hs3 (hc _ on.sc)
   replace on := on.next g
   exact s_ret fun a w ok => ends_givesP on (.inr rfl) ok (res_cell_tmp (i := 1) Try.results35 rfl rfl rfl rfl rfl (Nat.le_of_ble_eq_true rfl) rfl rfl) utR_mono ⟨_, rfl, by show SlC _ 1 _ ((utFirst b).2.length + 1) _; rw [← Nat.add_comm 1 (utFirst b).2.length]; exact hv3⟩
  have h : bits .and .u8 b 192 = 128 := by
   cases hx : (bits .and .u8 b 192 != 128) with
   | true => rw [hx] at h; cases h
   | false => exact Classical.byContradiction fun hn => by rw [bne_iff_ne.2 hn] at hx; cases hx
  rw [if_pos h]
  refine s_skip fun a w ok => WPs.run ?_ a w ok
  clear ok w a
  repeat refine s_seqs ?_
  refine s_reg ?_
  refine step_pure rfl (pure_fieldAddr rfl rfl rfl rfl rfl (by decide)) ?_
  first | refine step_pure rfl (pure_load (i := 0) rfl rfl rfl rfl rfl rfl) ?_ | refine step_pure rfl (pure_load (i := 1) rfl rfl rfl rfl rfl rfl) ?_ | refine step_pure rfl (pure_load (i := 2) rfl rfl rfl rfl rfl rfl) ?_ | refine step_pure rfl (pure_load (i := 3) rfl rfl rfl rfl rfl rfl) ?_ | refine step_pure rfl (pure_load (i := 4) rfl rfl rfl rfl rfl rfl) ?_ | refine step_pure rfl (pure_load (i := 5) rfl rfl rfl rfl rfl rfl) ?_
  first | refine step_pure rfl (pure_shl rfl rfl (by decide)) ?_ | refine step_pure rfl (pure_shl rfl rfl (by omega)) ?_
  refine qm rfl rfl ?_
  refine step_pure rfl (pure_and rfl rfl) ?_
  refine step_pure rfl (pure_conv rfl rfl rfl rfl) ?_
  refine step_pure rfl (pure_or rfl rfl) ?_
  refine step_pure rfl (pure_fieldAddr rfl rfl rfl rfl rfl (by decide)) ?_
  first | refine step_pure rfl (pure_load (i := 0) rfl rfl rfl rfl rfl rfl) ?_ | refine step_pure rfl (pure_load (i := 1) rfl rfl rfl rfl rfl rfl) ?_ | refine step_pure rfl (pure_load (i := 2) rfl rfl rfl rfl rfl rfl) ?_ | refine step_pure rfl (pure_load (i := 3) rfl rfl rfl rfl rfl rfl) ?_ | refine step_pure rfl (pure_load (i := 4) rfl rfl rfl rfl rfl rfl) ?_ | refine step_pure rfl (pure_load (i := 5) rfl rfl rfl rfl rfl rfl) ?_
  first | refine step_pure rfl (pure_sub64 rfl rfl (by omega) (by omega)) ?_ | refine step_pure rfl (pure_sub rfl rfl) ?_
  refine step_pure rfl (pure_fieldAddr rfl rfl rfl rfl rfl (by decide)) ?_
  first | refine step_store 0 rfl rfl rfl rfl rfl rfl rfl rfl (by first | decide | exact Nat.le_of_ble_eq_true rfl) rfl ?_ | refine step_store 1 rfl rfl rfl rfl rfl rfl rfl rfl (by first | decide | exact Nat.le_of_ble_eq_true rfl) rfl ?_ | refine step_store 2 rfl rfl rfl rfl rfl rfl rfl rfl (by first | decide | exact Nat.le_of_ble_eq_true rfl) rfl ?_ | refine step_store 3 rfl rfl rfl rfl rfl rfl rfl rfl (by first | decide | exact Nat.le_of_ble_eq_true rfl) rfl ?_ | refine step_store 4 rfl rfl rfl rfl rfl rfl rfl rfl (by first | decide | exact Nat.le_of_ble_eq_true rfl) rfl ?_ | refine step_store 5 rfl rfl rfl rfl rfl rfl rfl rfl (by first | decide | exact Nat.le_of_ble_eq_true rfl) rfl ?_
  refine step_pure rfl (pure_fieldAddr rfl rfl rfl rfl rfl (by decide)) ?_
  first | refine step_store 0 rfl rfl rfl rfl rfl rfl rfl rfl (by first | decide | exact Nat.le_of_ble_eq_true rfl) rfl ?_ | refine step_store 1 rfl rfl rfl rfl rfl rfl rfl rfl (by first | decide | exact Nat.le_of_ble_eq_true rfl) rfl ?_ | refine step_store 2 rfl rfl rfl rfl rfl rfl rfl rfl (by first | decide | exact Nat.le_of_ble_eq_true rfl) rfl ?_ | refine step_store 3 rfl rfl rfl rfl rfl rfl rfl rfl (by first | decide | exact Nat.le_of_ble_eq_true rfl) rfl ?_ | refine step_store 4 rfl rfl rfl rfl rfl rfl rfl rfl (by first | decide | exact Nat.le_of_ble_eq_true rfl) rfl ?_ | refine step_store 5 rfl rfl rfl rfl rfl rfl rfl rfl (by first | decide | exact Nat.le_of_ble_eq_true rfl) rfl ?_
  refine Vc.step_end (fun a w ok => ?_)
  first | (refine WPs.run ?_ a w ok; clear ok w a) | skip
  repeat refine s_seqs ?_
  refine s_reg ?_
  refine step_pure rfl (pure_fieldAddr rfl rfl rfl rfl rfl (by decide)) ?_
  first | refine step_pure rfl (pure_load (i := 0) rfl rfl rfl rfl rfl rfl) ?_ | refine step_pure rfl (pure_load (i := 1) rfl rfl rfl rfl rfl rfl) ?_ | refine step_pure rfl (pure_load (i := 2) rfl rfl rfl rfl rfl rfl) ?_ | refine step_pure rfl (pure_load (i := 3) rfl rfl rfl rfl rfl rfl) ?_ | refine step_pure rfl (pure_load (i := 4) rfl rfl rfl rfl rfl rfl) ?_ | refine step_pure rfl (pure_load (i := 5) rfl rfl rfl rfl rfl rfl) ?_
  refine step_pure rfl (pure_gtr rfl rfl) ?_
  refine Vc.step_end (fun a w ok => ?_)
  first | (refine WPs.run ?_ a w ok; clear ok w a) | skip
  repeat refine s_seqs ?_
  refine s_cond rfl (fun h1 => ?_) (fun h1 => ?_)
  ·have h1 := of_decide_eq_true h1
   rw [if_pos h1]
   repeat refine s_seqs ?_
   refine s_reg ?_
   first | refine step_pure rfl (pure_load_agg (i := 0) rfl rfl rfl rfl rfl (by first | decide | exact Nat.le_of_ble_eq_true rfl) rfl) ?_ | refine step_pure rfl (pure_load_agg (i := 1) rfl rfl rfl rfl rfl (by first | decide | exact Nat.le_of_ble_eq_true rfl) rfl) ?_ | refine step_pure rfl (pure_load_agg (i := 2) rfl rfl rfl rfl rfl (by first | decide | exact Nat.le_of_ble_eq_true rfl) rfl) ?_ | refine step_pure rfl (pure_load_agg (i := 3) rfl rfl rfl rfl rfl (by first | decide | exact Nat.le_of_ble_eq_true rfl) rfl) ?_ | refine step_pure rfl (pure_load_agg (i := 4) rfl rfl rfl rfl rfl (by first | decide | exact Nat.le_of_ble_eq_true rfl) rfl) ?_ | refine step_pure rfl (pure_load_agg (i := 5) rfl rfl rfl rfl rfl (by first | decide | exact Nat.le_of_ble_eq_true rfl) rfl) ?_
   first | refine step_store_agg 0 rfl rfl rfl (by decide) rfl rfl rfl rfl (by decide) rfl ?_ | refine step_store_agg 1 rfl rfl rfl (by decide) rfl rfl rfl rfl (by decide) rfl ?_ | refine step_store_agg 2 rfl rfl rfl (by decide) rfl rfl rfl rfl (by decide) rfl ?_ | refine step_store_agg 3 rfl rfl rfl (by decide) rfl rfl rfl rfl (by decide) rfl ?_ | refine step_store_agg 4 rfl rfl rfl (by decide) rfl rfl rfl rfl (by decide) rfl ?_ | refine step_store_agg 5 rfl rfl rfl (by decide) rfl rfl rfl rfl (by decide) rfl ?_ | refine step_store_agg 0 rfl rfl rfl (of_one rfl) rfl rfl rfl rfl (Nat.le_of_ble_eq_true rfl) rfl ?_ | refine step_store_agg 1 rfl rfl rfl (of_one rfl) rfl rfl rfl rfl (Nat.le_of_ble_eq_true rfl) rfl ?_ | refine step_store_agg 2 rfl rfl rfl (of_one rfl) rfl rfl rfl rfl (Nat.le_of_ble_eq_true rfl) rfl ?_ | refine step_store_agg 3 rfl rfl rfl (of_one rfl) rfl rfl rfl rfl (Nat.le_of_ble_eq_true rfl) rfl ?_ | refine step_store_agg 4 rfl rfl rfl (of_one rfl) rfl rfl rfl rfl (Nat.le_of_ble_eq_true rfl) rfl ?_ | refine step_store_agg 5 rfl rfl rfl (of_one rfl) rfl rfl rfl rfl (Nat.le_of_ble_eq_true rfl) rfl ?_
   refine qa rfl rfl ?_
   refine Vc.step_end (fun a w ok => ?_)
   first | (refine WPs.run ?_ a w ok; clear ok w a) | skip
   exact s_ret fun a w ok => ends_givesP on (.inr rfl) ok (res_cell_tmp (i := 0) Try.results35 rfl rfl rfl rfl rfl (Nat.le_of_ble_eq_true rfl) rfl rfl) utR_mono ⟨_, rfl, slc_nil⟩
  have h1 := of_decide_eq_false h1
  rw [if_neg h1]
  refine s_skip fun a w ok => WPs.run ?_ a w ok
  clear ok w a
  clear h1 h
  have his := fun w => is_any (utVal u b) w
  have hfv : bits .or .i64 (IntKind.i64.wrap (u.val * 2 ^ min (6 : Int).toNat IntKind.i64.bits)) (IntKind.i64.wrap (bits .and .u8 b 63)) = utVal u b := rfl
  repeat refine s_seqs ?_
  refine s_meet [(2, .pointer (some ⟨b2, 0, none⟩)), (4, .pointer (some ⟨b4, 0, none⟩)), (53, .bool (!(utIs (utVal u b) && decide (u.least ≤ utVal u b))))] [⟨b4, utC zUt, tU⟩, ⟨b2, utC ⟨u.need - 1, utVal u b, u.least⟩, tU⟩] ?_ (fun a w ok => WPs.run ?_ a w ok)
  ·rw [hfv]
   clear hfv
   generalize utVal u b = V at *
   generalize utIs V = vi at *
   repeat refine c_seq ?_
   refine c_region ?_
   refine step_pure rfl (pure_fieldAddr rfl rfl rfl rfl rfl (by decide)) ?_
   first | refine step_pure rfl (pure_load (i := 0) rfl rfl rfl rfl rfl rfl) ?_ | refine step_pure rfl (pure_load (i := 1) rfl rfl rfl rfl rfl rfl) ?_ | refine step_pure rfl (pure_load (i := 2) rfl rfl rfl rfl rfl rfl) ?_ | refine step_pure rfl (pure_load (i := 3) rfl rfl rfl rfl rfl rfl) ?_ | refine step_pure rfl (pure_load (i := 4) rfl rfl rfl rfl rfl rfl) ?_ | refine step_pure rfl (pure_load (i := 5) rfl rfl rfl rfl rfl rfl) ?_
   refine step_gives rfl fun67 rfl (fun w _ _ => his w) ?_
   refine step_pure rfl (pure_not rfl) ?_
   refine qm rfl rfl ?_
   refine step_split (t := 47) rfl (fun h47 => ?_) (fun h47 => ?_)
   ·refine qp rfl rfl rfl ?_
    refine qp rfl rfl rfl ?_
    refine qp rfl rfl rfl ?_
    refine qp rfl rfl rfl ?_
    refine qp rfl rfl rfl ?_
    refine step_pure rfl (pure_pick_yes rfl rfl) ?_
    refine step_nil ?_
    refine less_of ⟨rfl, rfl, ?_, trivial⟩ rfl
    refine congrArg some (congrArg Value.bool ?_)
    clear his
    simp_all
    try (rw [Bool.eq_iff_iff]; simp; done)
   ·refine step_pure rfl (pure_fieldAddr rfl rfl rfl rfl rfl (by decide)) ?_
    first | refine step_pure rfl (pure_load (i := 0) rfl rfl rfl rfl rfl rfl) ?_ | refine step_pure rfl (pure_load (i := 1) rfl rfl rfl rfl rfl rfl) ?_ | refine step_pure rfl (pure_load (i := 2) rfl rfl rfl rfl rfl rfl) ?_ | refine step_pure rfl (pure_load (i := 3) rfl rfl rfl rfl rfl rfl) ?_ | refine step_pure rfl (pure_load (i := 4) rfl rfl rfl rfl rfl rfl) ?_ | refine step_pure rfl (pure_load (i := 5) rfl rfl rfl rfl rfl rfl) ?_
    refine step_pure rfl (pure_fieldAddr rfl rfl rfl rfl rfl (by decide)) ?_
    first | refine step_pure rfl (pure_load (i := 0) rfl rfl rfl rfl rfl rfl) ?_ | refine step_pure rfl (pure_load (i := 1) rfl rfl rfl rfl rfl rfl) ?_ | refine step_pure rfl (pure_load (i := 2) rfl rfl rfl rfl rfl rfl) ?_ | refine step_pure rfl (pure_load (i := 3) rfl rfl rfl rfl rfl rfl) ?_ | refine step_pure rfl (pure_load (i := 4) rfl rfl rfl rfl rfl rfl) ?_ | refine step_pure rfl (pure_load (i := 5) rfl rfl rfl rfl rfl rfl) ?_
    refine step_pure rfl (pure_lss rfl rfl) ?_
    refine step_pure rfl (pure_pick_no rfl rfl) ?_
    refine step_nil ?_
    refine less_of ⟨rfl, rfl, ?_, trivial⟩ rfl
    refine congrArg some (congrArg Value.bool ?_)
    clear his
    simp_all
    try (rw [Bool.eq_iff_iff]; simp; done)
  repeat refine s_seqs ?_
  refine s_meet [(2, .pointer (some ⟨b2, 0, none⟩)), (4, .pointer (some ⟨b4, 0, none⟩))] [⟨b4, utC zUt, tU⟩, ⟨b2, utC ⟨u.need - 1, if utIs (utVal u b) = true ∧ u.least ≤ utVal u b then utVal u b else 65533, u.least⟩, tU⟩] ?_ (fun a w ok => WPs.run ?_ a w ok)
  ·repeat refine c_seq ?_
   refine c_cond rfl (fun h => ?_) (fun h => ?_)
   ·rw [if_neg (by intro ⟨q1, q2⟩; rw [q1, decide_eq_true q2] at h; cases h)]
    repeat refine c_seq ?_
    refine c_region ?_
    refine step_pure rfl (pure_fieldAddr rfl rfl rfl rfl rfl (by decide)) ?_
    first | refine step_store 0 rfl rfl rfl rfl rfl rfl rfl rfl (by first | decide | exact Nat.le_of_ble_eq_true rfl) rfl ?_ | refine step_store 1 rfl rfl rfl rfl rfl rfl rfl rfl (by first | decide | exact Nat.le_of_ble_eq_true rfl) rfl ?_ | refine step_store 2 rfl rfl rfl rfl rfl rfl rfl rfl (by first | decide | exact Nat.le_of_ble_eq_true rfl) rfl ?_ | refine step_store 3 rfl rfl rfl rfl rfl rfl rfl rfl (by first | decide | exact Nat.le_of_ble_eq_true rfl) rfl ?_ | refine step_store 4 rfl rfl rfl rfl rfl rfl rfl rfl (by first | decide | exact Nat.le_of_ble_eq_true rfl) rfl ?_ | refine step_store 5 rfl rfl rfl rfl rfl rfl rfl rfl (by first | decide | exact Nat.le_of_ble_eq_true rfl) rfl ?_
    refine step_nil ?_
    exact less_of ⟨rfl, rfl, trivial⟩ rfl
   ·rw [if_pos (by rw [Bool.not_eq_false', Bool.and_eq_true, decide_eq_true_eq] at h; exact h)]
    exact c_skip (less_of ⟨rfl, rfl, trivial⟩ rfl)
  generalize (if utIs (utVal u b) = true ∧ u.least ≤ utVal u b then utVal u b else 65533) = V
  repeat refine s_seqs ?_
  refine s_dreg [1, 9, 19, 25, 37, 44] ([⟨b2, utC ⟨u.need - 1, V, u.least⟩, tU⟩]) follows (by kernel_rfl) ?_
  refine d_pure0 rfl rfl rfl (pure_build_struct (pl := [(0, 1), (1, 1), (2, 1)]) rfl zero23 rfl rfl rfl rfl) ?_
  refine d_pure0 rfl rfl rfl (pure_fieldAddr rfl rfl rfl rfl rfl (by decide)) ?_
  refine d_pure1 rfl rfl rfl (pure_load (i := 0) rfl rfl rfl rfl rfl rfl) (by first | exact SubMem.refl _ | exact (SubMem.refl _).cons | exact (SubMem.refl _).cons.cons | exact (SubMem.refl _).cons.cons.cons | exact (SubMem.refl _).cons.cons.cons.cons | exact (fun w hh => Has.sublist (by repeat (first | exact List.Sublist.refl _ | exact List.nil_sublist _ | apply List.Sublist.cons_cons | apply List.Sublist.cons)) hh)) ?_
  refine d_forkBS 0 rfl rfl rfl rfl rfl rfl elem3 (by decide) (by decide) (built_i V) rfl rfl rfl (by kernel_rfl) (by decide) rfl (fun _ => rfl) rfl (fun _ => rfl) rfl (fun _ => rfl) (of_one rfl) rfl rfl rfl rfl (Nat.le_of_ble_eq_true rfl) rfl (by first | exact SubMem.refl _ | exact (SubMem.refl _).cons | exact (SubMem.refl _).cons.cons | exact (SubMem.refl _).cons.cons.cons | exact (SubMem.refl _).cons.cons.cons.cons | exact (fun w hh => Has.sublist (by repeat (first | exact List.Sublist.refl _ | exact List.nil_sublist _ | apply List.Sublist.cons_cons | apply List.Sublist.cons)) hh)) (by first | exact SubMem.refl _ | exact (SubMem.refl _).cons | exact (SubMem.refl _).cons.cons | exact (SubMem.refl _).cons.cons.cons | exact (SubMem.refl _).cons.cons.cons.cons | exact (fun w hh => Has.sublist (by repeat (first | exact List.Sublist.refl _ | exact List.nil_sublist _ | apply List.Sublist.cons_cons | apply List.Sublist.cons)) hh)) (fun b58 => ?_)
  skip
  refine d_only_pure rfl rfl rfl (pure_assign rfl) (fun _ => (by first | exact SubMem.refl _ | exact (SubMem.refl _).cons | exact (SubMem.refl _).cons.cons | exact (SubMem.refl _).cons.cons.cons | exact (SubMem.refl _).cons.cons.cons.cons | exact (fun w hh => Has.sublist (by repeat (first | exact List.Sublist.refl _ | exact List.nil_sublist _ | apply List.Sublist.cons_cons | apply List.Sublist.cons)) hh))) rfl ?_
  refine d_end (fun a w ok => ?_)
  first | (refine WPs.run ?_ a w ok; clear ok w a) | skip
  refine s_let 0 rfl (fun E2 g hc => ?_)
  have hv3 := slis_cz (sl_built uI tI b58 [.int .i64 V] 1 rfl) (hc _ on.sc)
  replace on := on.next g
  exact s_ret fun a w ok => ends_givesP on (.inr rfl) ok (res_cell_tmp (i := 0) Try.results35 rfl rfl rfl rfl rfl (Nat.le_of_ble_eq_true rfl) rfl rfl) utR_mono ⟨_, rfl, hv3⟩
end Go.Proofs.Ytadginombcjbeaa
/- Runes of bytes: walked. -/
namespace Go.Proofs.Ytadginombcjbeaa
open Go.RowKit Go.Vc
set_option linter.unusedVariables false
theorem res_tmp_cell {B : Tb} {rs : Rs} {m : Mem} {fn : Func} {t u : Tmp} {T : TypeId} {b off i : Nat} {e : Ent} {d : Ty} {vs : List Value} {x : Value} (h : fn.results = #[.tmp u, .cell t T])
  (hu : Vc.look rs u = some x) (hx : Vc.look rs t = some (.pointer (some ⟨b, off, none⟩))) (hT : B.ty T = some d) (hd : d.agg = true) (he : nth m i = some e) (hb : e.blk = b)
  (hl : off + d.size ≤ e.cells.length) (hv : (e.cells.drop off).take d.size = vs) : ResIs B fn rs m (.tuple #[x, .agg vs.toArray]) := by
 refine ⟨fun a w hr hh => ?_⟩
 have h1 := hr t _ hx
 have h2 := hr u _ hu
 have hc := hh.cell (nth_mem he)
 rw [hb] at hc
 subst hv
 simp [results, h, Array.getD_eq_getD_getElem?, h1, h2, asAddr, loadVar, ty_agg hT, hd, ty_size hT, run_loadCells0 hc _ hl]
def RnR (x : List Int × Ut) (u : Value) (C : Addr → Value → Prop) : Prop := ∃ v, u = .tuple #[v, .agg (utC x.2).toArray] ∧ SlC C 1 v x.1.length (ints .i64 x.1)
theorem rnR_mono {x : List Int × Ut} : ∀ v (C C' : Addr → Value → Prop), (∀ p x, C p x → C' p x) → RnR x v C → RnR x v C' := by
 rintro v C C' hC ⟨u, rfl, h⟩
 exact ⟨u, rfl, h.mono hC⟩
theorem ints_app (k : IntKind) (a b : List Int) : ints k (a ++ b) = ints k a ++ ints k b := List.map_append ..
set_option maxHeartbeats 2000000 in
theorem runes_P (u : Ut) (bs : List Int) (v : Value) (w : World) {Z : Nat → Prop} (hZ : ∀ j, w.heap.size ≤ j → Z j) (hv : SlC (At w) 1 v bs.length (row bs)) (hle : bs.length ≤ 1000) :
  GivesP tb 20 [.agg (utC u).toArray, v] w Z (RnR (utRunes u bs)) := by
 replace hv : SlC (Cz (fun _ => True) ⟨w, [], []⟩) 1 v bs.length (row bs) := hv.mono fun p x h => ⟨⟨h, by simp⟩, trivial⟩
 obtain ⟨base0, cap0, rfl, _⟩ := slc_sl hv
 refine givesP_of (fn := Try.f20) Try.func20 rfl Try.ntmps20 rfl hZ rnR_mono (fun on => ?_)
 repeat refine s_seqs ?_
 refine s_reg ?_
 refine step_box_agg rfl rfl (fun b2 => ?_)
 refine qa rfl rfl ?_
 refine step_hole ?_
 refine step_alloc rfl zero23 (fun b5 => ?_)
 refine Vc.step_end (fun a w ok => ?_)
 first | (refine WPs.run ?_ a w ok; clear ok w a) | skip
 repeat refine s_seqs ?_
 refine s_reg ?_
 refine qm rfl rfl ?_
 refine step_pure rfl (pure_len_slice rfl rfl rfl) ?_
 refine qm rfl rfl ?_
 refine Vc.step_end (fun a w ok => ?_)
 first | (refine WPs.run ?_ a w ok; clear ok w a) | skip
 repeat refine s_seqs ?_
 refine s_block ?_
 repeat refine s_seqs ?_
 refine s_loopP (α := Nat × Ut × List Int × Option Addr × Nat × Ent)
  (fun y => [(2, .pointer (some ⟨b2, 0, none⟩)), (4, .slice y.2.2.2.1 y.2.2.1.length y.2.2.2.2.1), (5, .pointer (some ⟨b5, 0, none⟩)), (9, .slice base0 bs.length cap0), (10, .int .i64 bs.length), (11, .int .i64 y.1)])
  (fun y => [⟨b5, utC zUt, tU⟩, y.2.2.2.2.2, ⟨b2, utC y.2.1, tU⟩])
  (fun y _ => y.1 ≤ bs.length ∧ SlIs uI tI y.2.2.2.2.2 y.2.2.2.1 y.2.2.1.length y.2.2.2.2.1 (ints .i64 y.2.2.1) ∧ y.2.2.1.length ≤ 2 * y.1 ∧ utRunes u bs = (y.2.2.1 ++ (utRunes y.2.1 (bs.drop y.1)).1, (utRunes y.2.1 (bs.drop y.1)).2))
  (fun y => bs.length - y.1) (0, u, [], none, 0, hole) ⟨Nat.zero_le _, sl_nil uI tI (by decide), Nat.le_refl _, rfl⟩ (less_sub ⟨rfl, rfl, rfl, rfl, rfl, rfl, trivial⟩ (by repeat (first | exact List.Sublist.refl _ | exact List.nil_sublist _ | apply List.Sublist.cons_cons | apply List.Sublist.cons))) ?_
 rintro ⟨i, u', o, base, cap, e⟩ E2 ⟨hi, hs, hol, hrun⟩ g
 replace on := on.next g
 replace hv := hv.mono g.cz
 clear g
 dsimp only at hi hs hol hrun ⊢
 repeat refine s_seqs ?_
 refine s_reg ?_
 refine step_pure rfl (pure_lss rfl rfl) ?_
 refine Vc.step_end (fun a w ok => ?_)
 first | (refine WPs.run ?_ a w ok; clear ok w a) | skip
 repeat refine s_seqs ?_
 refine s_cond rfl (fun h => ?_) (fun h => ?_)
 ·have hlt : i < bs.length := by have := of_decide_eq_true h; omega
  clear h
  refine s_skip fun a w ok => WPs.run ?_ a w ok
  clear ok w a
  obtain ⟨p, cap', e1, q1⟩ := slc_at1 hv hlt
  cases e1
  have hd : bs.drop i = bs[i] :: bs.drop (i + 1) := List.drop_eq_getElem_cons hlt
  generalize bs[i] = b at *
  have hsl := utStep_len u' b
  repeat refine s_seqs ?_
  refine s_block ?_
  repeat refine s_seqs ?_
  refine s_reg ?_
  refine step_pure rfl (pure_indexAddr_at rfl rfl rfl rfl rfl (by omega) (by omega)) ?_
  refine step_pure rfl (pure_cel rfl rfl rfl (show (Cel E2) _ _ from by rw [Int.toNat_natCast]; exact q1.1)) ?_
  refine qa rfl rfl ?_
  refine Vc.step_end (fun a w ok => ?_)
  first | (refine WPs.run ?_ a w ok; clear ok w a) | skip
  repeat refine s_seqs ?_
  refine s_reg ?_
  refine qa rfl rfl ?_
  refine Vc.step_end (fun a w ok => ?_)
  first | (refine WPs.run ?_ a w ok; clear ok w a) | skip
  repeat refine s_seqs ?_
  refine s_reg ?_
  first | refine step_pure rfl (pure_load_agg (i := 0) rfl rfl rfl rfl rfl (by first | decide | exact Nat.le_of_ble_eq_true rfl) rfl) ?_ | refine step_pure rfl (pure_load_agg (i := 1) rfl rfl rfl rfl rfl (by first | decide | exact Nat.le_of_ble_eq_true rfl) rfl) ?_ | refine step_pure rfl (pure_load_agg (i := 2) rfl rfl rfl rfl rfl (by first | decide | exact Nat.le_of_ble_eq_true rfl) rfl) ?_ | refine step_pure rfl (pure_load_agg (i := 3) rfl rfl rfl rfl rfl (by first | decide | exact Nat.le_of_ble_eq_true rfl) rfl) ?_ | refine step_pure rfl (pure_load_agg (i := 4) rfl rfl rfl rfl rfl (by first | decide | exact Nat.le_of_ble_eq_true rfl) rfl) ?_ | refine step_pure rfl (pure_load_agg (i := 5) rfl rfl rfl rfl rfl (by first | decide | exact Nat.le_of_ble_eq_true rfl) rfl) ?_
  refine qm rfl rfl ?_
  refine step_givesP on.sc rfl fun35 rfl (fun w' Z' hh kp hZ hC => step_P u' b w' hZ) ?_
  rintro x E3 g ⟨v8, rfl, hv8⟩
  replace on := on.next g
  obtain ⟨base8, cap8, rfl, _⟩ := slc_sl hv8
  refine qm rfl rfl ?_
  refine qx rfl rfl rfl ?_
  refine qx rfl rfl rfl ?_
  first | refine step_store_agg 0 rfl rfl rfl (by decide) rfl rfl rfl rfl (by decide) rfl ?_ | refine step_store_agg 1 rfl rfl rfl (by decide) rfl rfl rfl rfl (by decide) rfl ?_ | refine step_store_agg 2 rfl rfl rfl (by decide) rfl rfl rfl rfl (by decide) rfl ?_ | refine step_store_agg 3 rfl rfl rfl (by decide) rfl rfl rfl rfl (by decide) rfl ?_ | refine step_store_agg 4 rfl rfl rfl (by decide) rfl rfl rfl rfl (by decide) rfl ?_ | refine step_store_agg 5 rfl rfl rfl (by decide) rfl rfl rfl rfl (by decide) rfl ?_ | refine step_store_agg 0 rfl rfl rfl (of_one rfl) rfl rfl rfl rfl (Nat.le_of_ble_eq_true rfl) rfl ?_ | refine step_store_agg 1 rfl rfl rfl (of_one rfl) rfl rfl rfl rfl (Nat.le_of_ble_eq_true rfl) rfl ?_ | refine step_store_agg 2 rfl rfl rfl (of_one rfl) rfl rfl rfl rfl (Nat.le_of_ble_eq_true rfl) rfl ?_ | refine step_store_agg 3 rfl rfl rfl (of_one rfl) rfl rfl rfl rfl (Nat.le_of_ble_eq_true rfl) rfl ?_ | refine step_store_agg 4 rfl rfl rfl (of_one rfl) rfl rfl rfl rfl (Nat.le_of_ble_eq_true rfl) rfl ?_ | refine step_store_agg 5 rfl rfl rfl (of_one rfl) rfl rfl rfl rfl (Nat.le_of_ble_eq_true rfl) rfl ?_
  refine qa rfl rfl ?_
  refine Vc.step_end (fun a w ok => ?_)
  first | (refine WPs.run ?_ a w ok; clear ok w a) | skip
  repeat refine s_seqs ?_
  refine s_reg ?_
  refine qm rfl rfl ?_
  refine qm rfl rfl ?_
  refine step_append 1 rfl rfl hs rfl rfl rfl rfl rfl elem3 rfl (by decide) rfl rfl (by rw [ints_len]; exact (Nat.mul_one _).symm) (src_slc (k := (utStep u' b).2.length) (fun w' hh kp => hv8.mono (Cz.now kp))) (ints_one _ _) (by omega) (by omega) (fun base3 cap3 e3 hs3 => ?_)
  refine qa rfl rfl ?_
  refine Vc.step_end (fun a w ok => ?_)
  first | (refine WPs.run ?_ a w ok; clear ok w a) | skip
  repeat refine s_seqs ?_
  refine s_reg ?_
  first | refine step_pure rfl (pure_add64 rfl rfl (by omega) (by omega)) ?_ | refine step_pure rfl (pure_add rfl rfl) ?_
  refine qm rfl rfl ?_
  refine Vc.step_end (fun a w ok => ?_)
  refine ⟨(i + 1, (utStep u' b).1, o ++ (utStep u' b).2, base3, cap3, e3), E3, ⟨hlt, ?_, ?_, ?_⟩, by show bs.length - (i + 1) < bs.length - i; omega, g, Less.ok ?_ ok⟩
  ·show SlIs uI tI e3 base3 (o ++ (utStep u' b).2).length cap3 (ints .i64 (o ++ (utStep u' b).2)); rw [ints_app, List.length_append]; exact hs3
  ·show (o ++ (utStep u' b).2).length ≤ 2 * (i + 1); rw [List.length_append]; omega
  ·rw [hrun, hd]; show (o ++ ((utStep u' b).2 ++ _), _) = ((o ++ (utStep u' b).2) ++ _, _); rw [List.append_assoc]; rfl
  ·refine less_sub ⟨rfl, by show some _ = some _; rw [List.length_append], rfl, rfl, rfl, rfl, trivial⟩ (by repeat (first | exact List.Sublist.refl _ | exact List.nil_sublist _ | apply List.Sublist.cons_cons | apply List.Sublist.cons))
 ·have hge : i = bs.length := by have := of_decide_eq_false h; omega
  clear h
  subst hge
  rw [List.drop_length] at hrun
  refine s_exit fun a w ok => WPs.run ?_ a w ok
  clear ok w a
  repeat refine s_seqs ?_
  refine s_dreg [1, 11, 17, 28] ([⟨b2, utC u', tU⟩]) follows (by kernel_rfl) ?_
  refine qd rfl rfl rfl rfl ?_
  refine d_pure1 rfl rfl rfl (pure_load_agg (i := 0) rfl rfl rfl rfl rfl (Nat.le_of_ble_eq_true rfl) rfl) (by first | exact SubMem.refl _ | exact (SubMem.refl _).cons | exact (SubMem.refl _).cons.cons | exact (SubMem.refl _).cons.cons.cons | exact (SubMem.refl _).cons.cons.cons.cons | exact (fun w hh => Has.sublist (by repeat (first | exact List.Sublist.refl _ | exact List.nil_sublist _ | apply List.Sublist.cons_cons | apply List.Sublist.cons)) hh)) ?_
  refine d_pure0 rfl rfl rfl (pure_assign rfl) ?_
  refine d_store_agg 0 rfl rfl rfl rfl rfl (of_one rfl) rfl rfl rfl rfl (Nat.le_of_ble_eq_true rfl) rfl rfl rfl ?_
  refine d_end (fun a w ok => ?_)
  first | (refine WPs.run ?_ a w ok; clear ok w a) | skip
  refine s_let 1 rfl (fun E4 g hc => ?_)
  have hv3 := slis_cz hs (hc _ on.sc)
  replace on := on.next g
  exact s_ret fun a w ok => ends_givesP on (.inr rfl) ok (res_tmp_cell (i := 0) Try.results20 rfl rfl rfl rfl rfl rfl (Nat.le_of_ble_eq_true rfl) rfl) rnR_mono (by rw [hrun]; exact ⟨_, rfl, by show SlC _ 1 _ (o ++ []).length (ints .i64 (o ++ [])); rw [List.append_nil]; exact hv3⟩)
end Go.Proofs.Ytadginombcjbeaa
