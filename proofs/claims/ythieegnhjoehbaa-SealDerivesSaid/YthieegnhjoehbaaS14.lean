/- The document's answer for what a datagram is: Tagged, Open: walked. -/
import Derived.Test.YthieegnhjoehbaaS13
namespace Go.Proofs.Ythieegnhjoehbaa
open Go.RowKit Go.Vc
set_option linter.unusedVariables false
set_option maxHeartbeats 2000000 in
theorem tagged_any (K : List Int) (frm : Int) (b : List Int) (v : Value) (w : World) (hK : K.length = 96) (hKb : Bytes K) (hv : SlC (At w) 1 v b.length (row b)) (hb : Bytes b) (hle : b.length ≤ 100000) :
  Gives tb 20 [.agg (row K).toArray, .int .i64 frm, v] w (.bool (tgOk K frm b)) := by
 replace hv : SlC (Cz (fun _ => True) ⟨w, [], []⟩) 1 v b.length (row b) := hv.mono fun p x h => ⟨⟨h, by simp⟩, trivial⟩
 obtain ⟨base1, cap1, rfl, hcap1⟩ := slc_str hv
 refine gives_ofk (fn := Try.f20) Try.func20 rfl Try.ntmps20 rfl (fun on => ?_)
 repeat refine s_seqs ?_
 refine s_reg ?_
 refine step_box_agg rfl rfl (fun b3 => ?_)
 refine qa rfl rfl ?_
 refine Vc.step_end (fun a w ok => ?_)
 (refine WPs.run ?_ a w ok; clear ok w a)
 repeat refine s_seqs ?_
 refine s_reg ?_
 refine qm rfl rfl ?_
 refine step_gives rfl fun40 rfl (fun w' hh kp => rheaded_any b _ w' (hv.mono (Cz.now kp)).slv hb (by omega)) ?_
 cases hh : hdd b with
 | none =>
  rw [hdv_no hh, tgOk_none hh]
  refine qm rfl rfl ?_
  refine qx rfl rfl rfl ?_
  refine qx rfl rfl rfl ?_
  refine qx rfl rfl rfl ?_
  refine qx rfl rfl rfl ?_
  refine qa rfl rfl ?_
  refine qa rfl rfl ?_
  refine qa rfl rfl ?_
  refine qa rfl rfl ?_
  refine Vc.step_end (fun a w ok => ?_)
  (refine WPs.run ?_ a w ok; clear ok w a)
  repeat refine s_seqs ?_
  refine s_meet [(41, .bool true)] [] ?_ (fun a9 w9 ok9 => WPs.run ?_ a9 w9 ok9)
  ·clear hv
   repeat refine c_seq ?_
   refine c_region ?_
   refine qm rfl rfl ?_
   refine step_pure rfl (pure_lss rfl rfl) ?_
   refine qm rfl rfl ?_
   refine step_split (t := 22) rfl (fun h22 => ?_) (fun h22 => ?_)
   ·refine qp rfl rfl rfl ?_
    refine qp rfl rfl rfl ?_
    refine step_pure rfl (pure_pick_yes rfl rfl) ?_
    refine qm rfl rfl ?_
    refine qp rfl rfl rfl ?_
    refine qp rfl rfl rfl ?_
    refine step_pure rfl (pure_pick_yes rfl rfl) ?_
    refine qm rfl rfl ?_
    refine qp rfl rfl rfl ?_
    refine qp rfl rfl rfl ?_
    refine qp rfl rfl rfl ?_
    refine step_pure rfl (pure_pick_yes rfl rfl) ?_
    refine qm rfl rfl ?_
    refine qp rfl rfl rfl ?_
    refine qp rfl rfl rfl ?_
    refine qp rfl rfl rfl ?_
    refine qp rfl rfl rfl ?_
    refine qp rfl rfl rfl ?_
    refine step_pure rfl (pure_pick_yes rfl rfl) ?_
    refine step_nil ?_
    exact less_sub ⟨rfl, trivial⟩ (by repeat (first | exact List.Sublist.refl _ | exact List.nil_sublist _ | apply List.Sublist.cons_cons | apply List.Sublist.cons))
   ·refine qm rfl rfl ?_
    refine step_pure rfl (pure_gtr rfl rfl) ?_
    refine step_pure rfl (pure_pick_no rfl rfl) ?_
    refine qm rfl rfl ?_
    refine step_split (t := 26) rfl (fun h26 => ?_) (fun h26 => ?_)
    ·refine qp rfl rfl rfl ?_
     refine qp rfl rfl rfl ?_
     refine step_pure rfl (pure_pick_yes rfl rfl) ?_
     refine qm rfl rfl ?_
     refine qp rfl rfl rfl ?_
     refine qp rfl rfl rfl ?_
     refine qp rfl rfl rfl ?_
     refine step_pure rfl (pure_pick_yes rfl rfl) ?_
     refine qm rfl rfl ?_
     refine qp rfl rfl rfl ?_
     refine qp rfl rfl rfl ?_
     refine qp rfl rfl rfl ?_
     refine qp rfl rfl rfl ?_
     refine qp rfl rfl rfl ?_
     refine step_pure rfl (pure_pick_yes rfl rfl) ?_
     refine step_nil ?_
     exact less_sub ⟨rfl, trivial⟩ (by repeat (first | exact List.Sublist.refl _ | exact List.nil_sublist _ | apply List.Sublist.cons_cons | apply List.Sublist.cons))
    ·refine qm rfl rfl ?_
     refine step_pure rfl (pure_neq rfl rfl) ?_
     refine step_pure rfl (pure_pick_no rfl rfl) ?_
     refine qm rfl rfl ?_
     refine qp rfl rfl rfl ?_
     refine qp rfl rfl rfl ?_
     refine qp rfl rfl rfl ?_
     refine step_pure rfl (pure_pick_yes rfl rfl) ?_
     refine qm rfl rfl ?_
     refine qp rfl rfl rfl ?_
     refine qp rfl rfl rfl ?_
     refine qp rfl rfl rfl ?_
     refine qp rfl rfl rfl ?_
     refine qp rfl rfl rfl ?_
     refine step_pure rfl (pure_pick_yes rfl rfl) ?_
     refine step_nil ?_
     exact less_sub ⟨rfl, trivial⟩ (by repeat (first | exact List.Sublist.refl _ | exact List.nil_sublist _ | apply List.Sublist.cons_cons | apply List.Sublist.cons))
  repeat refine s_seqs ?_
  refine s_cond_yes rfl rfl ?_
  repeat refine s_seqs ?_
  refine s_reg ?_
  refine qa rfl rfl ?_
  refine Vc.step_end (fun a w ok => ?_)
  (refine WPs.run ?_ a w ok; clear ok w a)
  exact s_ret fun a w ok => ends_k on (.inr rfl) ok (res_tmp Try.results20 rfl)
 | some y =>
 obtain ⟨s, n, k⟩ := y
 have hle2 := hdd_le hb hh
 have htg := tgOk_some (K := K) (frm := frm) hh
 rw [hdv_yes hh]
 refine qm rfl rfl ?_
 refine qx rfl rfl rfl ?_
 refine qx rfl rfl rfl ?_
 refine qx rfl rfl rfl ?_
 refine qx rfl rfl rfl ?_
 refine qa rfl rfl ?_
 refine qa rfl rfl ?_
 refine qa rfl rfl ?_
 refine qa rfl rfl ?_
 refine Vc.step_end (fun a w ok => ?_)
 (refine WPs.run ?_ a w ok; clear ok w a)
 repeat refine s_seqs ?_
 refine s_meet [(1, .int .i64 frm), (2, .slice base1 b.length cap1), (3, .pointer (some ⟨b3, 0, none⟩)), (41, .bool (!(decide (s = frm) && decide (k + 16 ≤ b.length))))] [⟨b3, row K, 39⟩] ?_ (fun a9 w9 ok9 => WPs.run ?_ a9 w9 ok9)
 ·clear htg hv
  generalize b.length = bl at *
  repeat refine c_seq ?_
  refine c_region ?_
  refine qm rfl rfl ?_
  refine step_pure rfl (pure_lss rfl rfl) ?_
  refine qm rfl rfl ?_
  refine step_split (t := 22) rfl (fun h22 => ?_) (fun h22 => ?_)
  ·refine qp rfl rfl rfl ?_
   refine qp rfl rfl rfl ?_
   refine step_pure rfl (pure_pick_yes rfl rfl) ?_
   refine qm rfl rfl ?_
   refine qp rfl rfl rfl ?_
   refine qp rfl rfl rfl ?_
   refine step_pure rfl (pure_pick_yes rfl rfl) ?_
   refine qm rfl rfl ?_
   refine qp rfl rfl rfl ?_
   refine qp rfl rfl rfl ?_
   refine qp rfl rfl rfl ?_
   refine step_pure rfl (pure_pick_yes rfl rfl) ?_
   refine qm rfl rfl ?_
   refine qp rfl rfl rfl ?_
   refine qp rfl rfl rfl ?_
   refine qp rfl rfl rfl ?_
   refine qp rfl rfl rfl ?_
   refine qp rfl rfl rfl ?_
   refine step_pure rfl (pure_pick_yes rfl rfl) ?_
   refine step_nil ?_
   refine less_of ⟨rfl, rfl, rfl, ?_, trivial⟩ rfl
   refine congrArg some (congrArg Value.bool ?_)
   rw [Bool.eq_iff_iff]
   simp_all
   try omega
  ·refine qm rfl rfl ?_
   refine step_pure rfl (pure_gtr rfl rfl) ?_
   refine step_pure rfl (pure_pick_no rfl rfl) ?_
   refine qm rfl rfl ?_
   refine step_split (t := 26) rfl (fun h26 => ?_) (fun h26 => ?_)
   ·refine qp rfl rfl rfl ?_
    refine qp rfl rfl rfl ?_
    refine step_pure rfl (pure_pick_yes rfl rfl) ?_
    refine qm rfl rfl ?_
    refine qp rfl rfl rfl ?_
    refine qp rfl rfl rfl ?_
    refine qp rfl rfl rfl ?_
    refine step_pure rfl (pure_pick_yes rfl rfl) ?_
    refine qm rfl rfl ?_
    refine qp rfl rfl rfl ?_
    refine qp rfl rfl rfl ?_
    refine qp rfl rfl rfl ?_
    refine qp rfl rfl rfl ?_
    refine qp rfl rfl rfl ?_
    refine step_pure rfl (pure_pick_yes rfl rfl) ?_
    refine step_nil ?_
    refine less_of ⟨rfl, rfl, rfl, ?_, trivial⟩ rfl
    refine congrArg some (congrArg Value.bool ?_)
    rw [Bool.eq_iff_iff]
    simp_all
    try omega
   ·refine qm rfl rfl ?_
    refine step_pure rfl (pure_neq rfl rfl) ?_
    refine step_pure rfl (pure_pick_no rfl rfl) ?_
    refine qm rfl rfl ?_
    refine qm rfl rfl ?_
    refine qm rfl rfl ?_
    refine step_pure rfl (pure_neq rfl rfl) ?_
    refine step_pure rfl (pure_pick_no rfl rfl) ?_
    refine qm rfl rfl ?_
    refine step_split (t := 35) rfl (fun h35 => ?_) (fun h35 => ?_)
    ·refine qp rfl rfl rfl ?_
     refine qp rfl rfl rfl ?_
     refine qp rfl rfl rfl ?_
     refine qp rfl rfl rfl ?_
     refine qp rfl rfl rfl ?_
     refine step_pure rfl (pure_pick_yes rfl rfl) ?_
     refine step_nil ?_
     refine less_of ⟨rfl, rfl, rfl, ?_, trivial⟩ rfl
     refine congrArg some (congrArg Value.bool ?_)
     rw [Bool.eq_iff_iff]
     simp_all
     try omega
    ·refine qm rfl rfl ?_
     refine step_pure rfl (pure_len_slice rfl rfl rfl) ?_
     refine qm rfl rfl ?_
     refine step_pure rfl (pure_add64 rfl rfl (by omega) (by omega)) ?_
     refine step_pure rfl (pure_lss rfl rfl) ?_
     refine step_pure rfl (pure_pick_no rfl rfl) ?_
     refine step_nil ?_
     refine less_of ⟨rfl, rfl, rfl, ?_, trivial⟩ rfl
     refine congrArg some (congrArg Value.bool ?_)
     rw [Bool.eq_iff_iff]
     simp_all
     try omega
 repeat refine s_seqs ?_
 refine s_cond rfl (fun h => ?_) (fun h => ?_)
 ·have hno : tgOk K frm b = false := by
   rw [htg, ← Bool.and_assoc]
   rw [Bool.not_eq_true'] at h
   rw [h]
   rfl
  rw [hno]
  repeat refine s_seqs ?_
  refine s_reg ?_
  refine qa rfl rfl ?_
  refine Vc.step_end (fun a w ok => ?_)
  (refine WPs.run ?_ a w ok; clear ok w a)
  exact s_ret fun a w ok => ends_k on (.inr rfl) ok (res_tmp Try.results20 rfl)
 rw [Bool.not_eq_false'] at h
 have hsk : s = frm ∧ k + 16 ≤ b.length := by simpa using h
 rw [← Bool.and_assoc, h, Bool.true_and] at htg
 clear h
 obtain ⟨t, hst, hst2⟩ : ∃ t : Nat, s = t ∧ t < 2 := ⟨s.toNat, by omega, by omega⟩
 subst hst
 rw [Int.toNat_natCast] at htg
 obtain ⟨lst, hlst⟩ : ∃ l, l = b.length - 16 := ⟨_, rfl⟩
 rw [← hlst] at htg
 have hcv : ((b.length : Int) - 16) = (lst : Int) := by omega
 have hmK := macK_len hK hst2
 have hmb := macK_bytes hKb t
 have htl := tagF_len (macK K t) (b.take lst)
 have htb := tagF_bytes (macK K t) (b.take lst)
 have hDl : (b.drop lst).length = 16 := by rw [List.length_drop]; omega
 have hDb : Bytes (b.drop lst) := fun x hx => hb x (List.mem_of_mem_drop hx)
 have hTl : (b.take lst).length = lst := by rw [List.length_take]; omega
 have hs1 := slc_sub (lo := 0) (hi := lst) hv (Nat.zero_le _) (by omega)
 rw [Nat.zero_mul, Nat.sub_zero, Nat.mul_one, take_sub (by omega)] at hs1
 have hs2 := slc_sub (lo := lst) (hi := b.length) hv (by omega) (Nat.le_refl _)
 rw [Nat.mul_one, Nat.mul_one, row_sub, List.take_of_length_le (by rw [List.length_drop]; exact Nat.le_refl _), show b.length - lst = (b.drop lst).length from (List.length_drop ..).symm] at hs2
 have htag := fun w' kv tv (h1 : SlC (At w') 1 kv (macK K t).length (row (macK K t))) h3 => rmacTag_any (macK K t) (b.take lst) kv tv w' h1 h3 hmb (bytes_take hb _) (by omega) (by omega)
 generalize tagF (macK K t) (b.take lst) = G at *
 obtain ⟨hf, -⟩ := hsk
 subst hf
 refine s_skip fun a w ok => WPs.run ?_ a w ok
 clear ok w a
 repeat refine s_seqs ?_
 refine s_reg ?_
 refine qm rfl rfl ?_
 refine step_pure rfl (pure_len_slice rfl rfl rfl) ?_
 refine step_as rfl (pure_sub64 rfl rfl (by omega) (by omega)) (show _ = Value.int .i64 lst from by rw [hcv]) ?_
 refine qa rfl rfl ?_
 refine Vc.step_end (fun a w ok => ?_)
 (refine WPs.run ?_ a w ok; clear ok w a)
 repeat refine s_seqs ?_
 refine s_dreg [1, 9, 17, 25, 33, 41, 49, 59, 69, 76] ([⟨b3, row K, 39⟩]) follows (by kernel_rfl) ?_
 refine qd rfl rfl rfl rfl ?_
 refine d_pure0 rfl rfl rfl (pure_fieldAddr rfl rfl rfl rfl rfl (by decide)) ?_
 refine d_pure0 rfl rfl rfl (pure_ix (off' := 32 + 32 * t) rfl rfl rfl rfl rfl (by omega) (by omega) (by show 0 + 32 + (t : Int).toNat * 32 = _; omega)) ?_
 refine d_as0 rfl rfl rfl (pure_slice_all rfl rfl rfl rfl) (show _ = Value.slice (some ⟨b3, 32 + 32 * t, none⟩) 32 32 from rfl) ?_
 refine qd rfl rfl rfl rfl ?_
 refine qd rfl rfl rfl rfl ?_
 refine d_as0 rfl rfl rfl (pure_sub_hi rfl rfl rfl rfl rfl (by omega) (by omega)) (show _ = subS base1 cap1 1 0 lst from by show subS base1 cap1 1 0 (lst : Int).toNat = _; rw [Int.toNat_natCast]) ?_
 refine d_gives rfl rfl rfl fun34 rfl (fun w' hh kp => htag w' _ _ (by rw [hmK]; exact slc_blk (j := 0) (off := 32 + 32 * t) hh rfl (by rw [hK]; omega) (Nat.le_refl _)) (by rw [hTl]; exact hs1.mono (Cz.now kp))) (by exact SubMem.refl _) ?_
 refine d_alloc rfl rfl rfl zero28 (by exact SubMem.refl _) rfl (fun b12 => ?_)
 refine d_store_agg 0 rfl rfl rfl rfl rfl (row_one _) rfl (by rw [row_len]; exact htl) rfl rfl (Nat.le_of_ble_eq_true rfl) (splice_all (by rw [row_len, htl]; rfl)) rfl rfl ?_
 refine d_end (fun a w ok => ?_)
 (refine WPs.run ?_ a w ok; clear ok w a)
 have hbeq : ((str (b.drop lst)).toList == (str G).toList) = decide (G = b.drop lst) := by
  by_cases h : G = b.drop lst
  ·rw [h, beq_self_eq_true, decide_eq_true rfl]
  ·rw [decide_eq_false h]
   exact str_ne hDb htb (fun h2 => h h2.symm)
 repeat refine s_seqs ?_
 refine s_dreg [1, 9, 17, 27, 33, 43, 49, 57] ([⟨b12, row G, 28⟩, ⟨b3, row K, 39⟩]) follows (by kernel_rfl) ?_
 refine qd rfl rfl rfl rfl ?_
 refine qd rfl rfl rfl rfl ?_
 refine d_as0 rfl rfl rfl (pure_sub_lo rfl rfl rfl rfl rfl (by omega) (by omega)) (show _ = subS base1 cap1 1 lst b.length from by show subS base1 cap1 1 (lst : Int).toNat b.length = _; rw [Int.toNat_natCast]) ?_
 refine d_pure1 rfl rfl rfl (pure_cz_string rfl rfl rfl rfl rfl rfl rfl hs2) (by exact SubMem.refl _) ?_
 refine d_as0 rfl rfl rfl (pure_slice_all rfl rfl rfl rfl) (show _ = Value.slice (some ⟨b12, 0, none⟩) 16 16 from rfl) ?_
 refine d_pure1 rfl rfl rfl (pure_sl_string rfl rfl rfl rfl rfl rfl rfl (fun w' hh kp => slv_arr (j := 0) hh rfl htl)) (by exact SubMem.refl _) ?_
 refine d_as0 rfl rfl rfl (pure_str_eql rfl rfl) (show _ = Value.bool (decide (G = b.drop lst)) from by rw [hbeq]) ?_
 refine d_pure0 rfl rfl rfl (pure_assign rfl) ?_
 refine d_end (fun a w ok => ?_)
 (refine WPs.run ?_ a w ok; clear ok w a)
 rw [htg]
 exact s_ret fun a w ok => ends_k on (.inr rfl) ok (res_tmp Try.results20 rfl)
set_option maxHeartbeats 2000000 in
theorem ropen_P (K : List Int) (frm : Int) (b : List Int) (v : Value) (w : World) {Z : Nat → Prop} (hZ : ∀ b, w.heap.size ≤ b → Z b) (hK : K.length = 96) (hKb : Bytes K) (hv : SlC (At w) 1 v b.length (row b)) (hb : Bytes b) (hle : b.length ≤ 100000) :
  GivesP tb 18 [.agg (row K).toArray, .int .i64 frm, v] w Z (OpR K frm b) := by
 replace hv : SlC (Cel ⟨w, [], []⟩) 1 v b.length (row b) := hv.mono fun p x h => ⟨h, by simp⟩
 obtain ⟨base1, cap1, rfl, hcap1⟩ := slc_str hv
 refine givesP_of (fn := Try.f18) Try.func18 rfl Try.ntmps18 rfl hZ (opR_mono K frm b) (fun on => ?_)
 repeat refine s_seqs ?_
 refine s_reg ?_
 refine step_box_agg rfl rfl (fun b3 => ?_)
 refine step_alloc rfl zero25 (fun b6 => ?_)
 refine qa rfl rfl ?_
 refine Vc.step_end (fun a w ok => ?_)
 (refine WPs.run ?_ a w ok; clear ok w a)
 repeat refine s_seqs ?_
 refine s_reg ?_
 refine step_pure rfl (pure_load_agg (i := 1) rfl rfl rfl rfl rfl (by show 0 + 96 ≤ (row K).length; rw [row_len, hK]; decide) (ints_whole _ _ 96 hK)) ?_
 refine qm rfl rfl ?_
 refine qm rfl rfl ?_
 refine step_gives rfl fun20 rfl (fun w' hh kp => tagged_any K frm b _ w' hK hKb (hv.mono fun p x h => h.now kp) hb hle) ?_
 refine qa rfl rfl ?_
 refine Vc.step_end (fun a w ok => ?_)
 (refine WPs.run ?_ a w ok; clear ok w a)
 cases htg : tgOk K frm b with
 | false =>
  repeat refine s_seqs ?_
  refine s_reg ?_
  refine qm rfl rfl ?_
  refine step_pure rfl (pure_not rfl) ?_
  refine Vc.step_end (fun a w ok => ?_)
  (refine WPs.run ?_ a w ok; clear ok w a)
  repeat refine s_seqs ?_
  refine s_cond_yes rfl rfl ?_
  repeat refine s_seqs ?_
  refine s_reg ?_
  refine step_pure rfl (pure_build_struct (pl := [(0, 1), (1, 1), (2, 1)]) rfl zero25 rfl rfl rfl rfl) ?_
  refine step_store_agg 0 rfl rfl rfl (of_one rfl) rfl rfl rfl rfl (Nat.le_of_ble_eq_true rfl) rfl ?_
  refine qa rfl rfl ?_
  refine Vc.step_end (fun a w ok => ?_)
  (refine WPs.run ?_ a w ok; clear ok w a)
  exact s_ret fun a w ok => ends_givesP on (.inr rfl) ok (res_cell_tmp (i := 0) Try.results18 rfl rfl rfl rfl rfl (Nat.le_of_ble_eq_true rfl) rfl rfl) (opR_mono K frm b) (opR_no htg)
 | true =>
 repeat refine s_seqs ?_
 refine s_reg ?_
 refine qm rfl rfl ?_
 refine step_pure rfl (pure_not rfl) ?_
 refine Vc.step_end (fun a w ok => ?_)
 (refine WPs.run ?_ a w ok; clear ok w a)
 repeat refine s_seqs ?_
 refine s_cond_no rfl rfl ?_
 refine s_skip fun a w ok => WPs.run ?_ a w ok
 clear ok w a
 cases hh : hdd b with
 | none => rw [tgOk_none hh] at htg; cases htg
 | some y =>
 obtain ⟨s, n, k⟩ := y
 have hle2 := hdd_le hb hh
 have hts := tgOk_some (K := K) (frm := frm) hh
 rw [htg] at hts
 have hsk : s = frm ∧ k + 16 ≤ b.length := by
  have := hts.symm
  simp only [Bool.and_eq_true, decide_eq_true_eq] at this
  exact ⟨this.1, this.2.1⟩
 have hrd := opRd_some (K := K) (frm := frm) hh htg
 obtain ⟨t, hst, hst2⟩ : ∃ t : Nat, s = t ∧ t < 2 := ⟨s.toNat, by omega, by omega⟩
 obtain ⟨hf, hk16⟩ := hsk
 subst hf
 subst hst
 rw [Int.toNat_natCast] at hrd
 obtain ⟨lst, hlst⟩ : ∃ l, l = b.length - 16 := ⟨_, rfl⟩
 rw [← hlst] at hrd
 have hcv : ((b.length : Int) - 16) = (lst : Int) := by omega
 clear hts
 have heK := encK_len hK hst2
 have heb := encK_bytes hKb t
 have hdr : ((row K).drop (16 * t)).take 16 = row (encK K t) := ints_sub .u8 K _ 16
 have hs2 := slc_sub (lo := k) (hi := lst) hv (by omega) (by omega)
 rw [Nat.mul_one, Nat.mul_one, row_sub] at hs2
 have hmid : ((b.drop k).take (lst - k)).length = lst - k := by rw [List.length_take, List.length_drop]; omega
 replace hs2 : SlC (Cel ⟨w, [], []⟩) 1 (subS base1 cap1 1 k lst) ((b.drop k).take (lst - k)).length (row ((b.drop k).take (lst - k))) := by rw [hmid]; exact hs2
 have hdl := hid_len K t n ((b.drop k).take (lst - k))
 have hdb := hid_bytes K t n ((b.drop k).take (lst - k))
 have hstr := fun w' v3 (Z' : Nat → Prop) hZ (h : SlC (At w') 1 v3 ((b.drop k).take (lst - k)).length (row ((b.drop k).take (lst - k)))) => raesStream_P (encK K t) (aheadB n) ((b.drop k).take (lst - k)) v3 w' (Z := Z') hZ heK heb (aheadB_len n) (aheadB_bytes n) h (by omega)
 have hah := fun w => rahead_any n w
 rw [show outF (encK K t) (aheadB n) ((b.drop k).take (lst - k)) 0 = hid K t n ((b.drop k).take (lst - k)) from rfl] at hstr
 generalize hid K t n ((b.drop k).take (lst - k)) = H at *
 generalize aheadB n = A at *
 generalize encK K t = EK at *
 have hhd := fun w' (kp : Keep w w' []) => rheaded_any b (.slice base1 b.length cap1) w' (hv.mono fun p x h => h.now kp).slv hb (by omega)
 rw [hdv_yes hh] at hhd
 repeat refine s_seqs ?_
 refine s_reg ?_
 refine qm rfl rfl ?_
 refine step_gives rfl fun40 rfl (fun w' hh kp => hhd w' kp) ?_
 refine qm rfl rfl ?_
 refine qx rfl rfl rfl ?_
 refine qx rfl rfl rfl ?_
 refine qx rfl rfl rfl ?_
 refine qx rfl rfl rfl ?_
 refine qa rfl rfl ?_
 refine qa rfl rfl ?_
 refine qa rfl rfl ?_
 refine qa rfl rfl ?_
 refine Vc.step_end (fun a w ok => ?_)
 (refine WPs.run ?_ a w ok; clear ok w a)
 repeat refine s_seqs ?_
 refine s_dreg [1, 9, 17, 27, 33, 43, 49, 57, 65, 73, 81, 89, 100, 105, 113, 121, 129, 137] ([⟨b6, [.int .i64 0, .int .i64 0, .slice none 0 0], 25⟩, ⟨b3, row K, 39⟩]) follows (by kernel_rfl) ?_
 refine qd rfl rfl rfl rfl ?_
 refine d_pure0 rfl rfl rfl (pure_fieldAddr rfl rfl rfl rfl rfl (by decide)) ?_
 refine d_pure0 rfl rfl rfl (pure_ix (off' := 16 * t) rfl rfl rfl rfl rfl (by omega) (by omega) (by show 0 + 0 + (t : Int).toNat * 16 = _; omega)) ?_
 refine d_pure1 rfl rfl rfl (pure_load_agg (i := 1) rfl rfl rfl rfl rfl (by show 16 * t + 16 ≤ (row K).length; rw [row_len]; omega) hdr) (by exact SubMem.refl _) ?_
 refine qd rfl rfl rfl rfl ?_
 refine d_gives rfl rfl rfl fun33 rfl (fun w _ _ => hah w) (by exact SubMem.refl _) ?_
 refine qd rfl rfl rfl rfl ?_
 refine qd rfl rfl rfl rfl ?_
 refine qd rfl rfl rfl rfl ?_
 refine d_pure0 rfl rfl rfl (pure_len_slice rfl rfl rfl) ?_
 refine d_as0 rfl rfl rfl (pure_sub64 rfl rfl (by omega) (by omega)) (show _ = Value.int .i64 lst from by rw [hcv]) ?_
 refine d_as0 rfl rfl rfl (pure_sub_both rfl rfl rfl rfl rfl rfl (by omega) (by omega) (by omega)) (show _ = subS base1 cap1 1 k lst from by show subS base1 cap1 1 (k : Int).toNat (lst : Int).toNat = _; rw [Int.toNat_natCast, Int.toNat_natCast]) ?_
 refine d_givesP on.sc rfl rfl rfl fun32 rfl (fun w' Z' hh kp hZ hC => hstr w' _ Z' hZ (hs2.mono fun p x h => h.now kp)) rfl ?_
 rintro u E2 g ⟨v4, rfl, hd⟩
 replace on := on.next g
 clear g hs2 hhd
 refine qd rfl rfl rfl rfl ?_
 refine d_pure0 rfl rfl rfl (pure_extract rfl rfl) ?_
 refine d_pure0 rfl rfl rfl (pure_extract rfl rfl) ?_
 refine d_pure0 rfl rfl rfl (pure_assign rfl) ?_
 refine d_pure0 rfl rfl rfl (pure_assign rfl) ?_
 refine d_end (fun a w ok => ?_)
 (refine WPs.run ?_ a w ok; clear ok w a)
 repeat refine s_seqs ?_
 refine s_reg ?_
 refine qm rfl rfl ?_
 refine step_givesP on.sc rfl fun41 rfl (fun w' Z' hh kp hZ hC => rread_P H _ w' hZ (hd.mono (Cz.now kp)) hdb (by omega)) ?_
 rintro u E3 g ⟨v7, rfl, hr⟩
 replace on := on.next g
 clear g hd
 refine qm rfl rfl ?_
 refine qx rfl rfl rfl ?_
 refine qx rfl rfl rfl ?_
 refine qa rfl rfl ?_
 refine qa rfl rfl ?_
 refine Vc.step_end (fun a w ok => ?_)
 (refine WPs.run ?_ a w ok; clear ok w a)
 cases hd : rdAll H with
 | none =>
  rw [hd] at hrd hr
  obtain ⟨b7, c7, rfl, hc7⟩ := hr.slice
  repeat refine s_seqs ?_
  refine s_reg ?_
  refine qm rfl rfl ?_
  refine step_pure rfl (pure_neq rfl rfl) ?_
  refine qm rfl rfl ?_
  refine qp rfl rfl rfl ?_
  refine qp rfl rfl rfl ?_
  refine qp rfl rfl rfl ?_
  refine step_pure rfl (pure_pick_yes rfl rfl) ?_
  refine Vc.step_end (fun a w ok => ?_)
  (refine WPs.run ?_ a w ok; clear ok w a)
  repeat refine s_seqs ?_
  refine s_cond_yes rfl rfl ?_
  repeat refine s_seqs ?_
  refine s_reg ?_
  refine step_pure rfl (pure_build_struct (pl := [(0, 1), (1, 1), (2, 1)]) rfl zero25 rfl rfl rfl rfl) ?_
  refine step_store_agg 0 rfl rfl rfl (of_one rfl) rfl rfl rfl rfl (Nat.le_of_ble_eq_true rfl) rfl ?_
  refine qa rfl rfl ?_
  refine Vc.step_end (fun a w ok => ?_)
  (refine WPs.run ?_ a w ok; clear ok w a)
  exact s_ret fun a w ok => ends_givesP on (.inr rfl) ok (res_cell_tmp (i := 0) Try.results18 rfl rfl rfl rfl rfl (Nat.le_of_ble_eq_true rfl) rfl rfl) (opR_mono K _ b) (opR_bad hrd)
 | some l =>
 rw [hd] at hrd hr
 replace hr : FrsC (Cz Z E3) v7 l := hr
 replace hrd : opRd K t b = some (if l.length = 0 then none else some ⟨t, n, l⟩) := hrd
 obtain ⟨b7, c7, rfl, hc7⟩ := hr.slice
 repeat refine s_seqs ?_
 refine s_reg ?_
 refine qm rfl rfl ?_
 refine step_pure rfl (pure_neq rfl rfl) ?_
 refine qm rfl rfl ?_
 refine qm rfl rfl ?_
 refine step_pure rfl (pure_len_slice rfl rfl rfl) ?_
 refine step_pure rfl (pure_eql rfl rfl) ?_
 refine step_pure rfl (pure_pick_no rfl rfl) ?_
 refine Vc.step_end (fun a w ok => ?_)
 (refine WPs.run ?_ a w ok; clear ok w a)
 repeat refine s_seqs ?_
 refine s_cond rfl (fun h => ?_) (fun h => ?_)
 ·rw [if_pos (by simpa using h)] at hrd
  repeat refine s_seqs ?_
  refine s_reg ?_
  refine step_pure rfl (pure_build_struct (pl := [(0, 1), (1, 1), (2, 1)]) rfl zero25 rfl rfl rfl rfl) ?_
  refine step_store_agg 0 rfl rfl rfl (of_one rfl) rfl rfl rfl rfl (Nat.le_of_ble_eq_true rfl) rfl ?_
  refine qa rfl rfl ?_
  refine Vc.step_end (fun a w ok => ?_)
  (refine WPs.run ?_ a w ok; clear ok w a)
  exact s_ret fun a w ok => ends_givesP on (.inr rfl) ok (res_cell_tmp (i := 0) Try.results18 rfl rfl rfl rfl rfl (Nat.le_of_ble_eq_true rfl) rfl rfl) (opR_mono K _ b) (opR_bad hrd)
 ·rw [if_neg (by simpa using h)] at hrd
  refine s_skip fun a w ok => WPs.run ?_ a w ok
  clear ok w a
  repeat refine s_seqs ?_
  refine s_reg ?_
  refine qm rfl rfl ?_
  refine qm rfl rfl ?_
  refine qm rfl rfl ?_
  refine step_pure rfl (pure_build_struct (pl := [(0, 1), (1, 1), (2, 1)]) rfl zero25 rfl rfl rfl rfl) ?_
  refine step_store_agg 0 rfl rfl rfl (of_one rfl) rfl rfl rfl rfl (Nat.le_of_ble_eq_true rfl) rfl ?_
  refine qa rfl rfl ?_
  refine Vc.step_end (fun a w ok => ?_)
  (refine WPs.run ?_ a w ok; clear ok w a)
  exact s_ret fun a w ok => ends_givesP on (.inr rfl) ok (res_cell_tmp (i := 0) Try.results18 rfl rfl rfl rfl rfl (Nat.le_of_ble_eq_true rfl) rfl rfl) (opR_mono K _ b) (opR_yes hrd hr)
end Go.Proofs.Ythieegnhjoehbaa
