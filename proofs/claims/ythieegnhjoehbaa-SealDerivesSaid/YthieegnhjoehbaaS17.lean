/- The law SealTells, walked. -/
import Derived.Test.YthieegnhjoehbaaS16
namespace Go.Proofs.Ythieegnhjoehbaa
open Go.RowKit Go.Vc
set_option linter.unusedVariables false
theorem szF_len (K : List Int) (p : Pk) : szF p = ((sealB K p).length : Int) := by
 unfold szF
 cases h : pOk p with
 | false => rw [sealB_no K h]; rfl
 | true =>
  rw [if_pos rfl, sealB_len K h, outT_len, pB_yes h, List.length_append]
  rfl
theorem or_no {a b : Bool} (h : (a || !b) = false) : a = false ∧ b = true := by cases a <;> cases b <;> simp_all
set_option maxHeartbeats 2000000 in
theorem sealtells_any (secret : List Int) (kv : Value) (p : Pk) (cs : List Value) (w : World) (hk : SlC (At w) 1 kv secret.length (row secret)) (hsb : Bytes secret) (hp : PkC (At w) p cs) (hbig : ∀ f ∈ p.fs, f.data.length ≤ maxLen) (hle : p.fs.length ≤ maxLen) :
  Gives tb 3 [kv, .agg cs.toArray] w (.bool true) := by
 obtain ⟨fv, rfl, hv⟩ := hp
 replace hv : FrsC (Cz (fun _ => True) ⟨w, [], []⟩) fv p.fs := hv.mono fun p x h => ⟨⟨h, by simp⟩, trivial⟩
 replace hk : SlC (Cz (fun _ => True) ⟨w, [], []⟩) 1 kv secret.length (row secret) := hk.mono fun p x h => ⟨⟨h, by simp⟩, trivial⟩
 obtain ⟨fb, fc, rfl, hfc⟩ := hv.slice
 obtain ⟨kb, kc, rfl, hkc⟩ := slc_str hk
 refine gives_ofk (fn := Try.f3) Try.func3 rfl Try.ntmps3 rfl (fun on => ?_)
 repeat refine s_seqs ?_
 refine s_reg ?_
 refine step_box_agg rfl rfl (fun b3 => ?_)
 refine qa rfl rfl ?_
 refine Vc.step_end (fun a w ok => ?_)
 first | (refine WPs.run ?_ a w ok; clear ok w a) | skip
 repeat refine s_seqs ?_
 refine s_reg ?_
 refine step_gives rfl fun9 rfl (fun w _ _ => sawake_any w) ?_
 refine qa rfl rfl ?_
 refine Vc.step_end (fun a w ok => ?_)
 first | (refine WPs.run ?_ a w ok; clear ok w a) | skip
 repeat refine s_seqs ?_
 refine s_meet [(0, .slice kb secret.length kc), (3, .pointer (some ⟨b3, 0, none⟩)), (5, .bool true), (21, .bool (decide ((secret.length : Int) > 300) || !shB p.fs))] [⟨b3, [.int .i64 p.side, .int .i64 p.num, .slice fb p.fs.length fc], 25⟩] ?_ (fun a9 w9 ok9 => WPs.run ?_ a9 w9 ok9)
 ·have hsh := fun w' (kp : Keep w w' []) => short_any p _ w' ⟨_, rfl, hv.mono (Cz.now kp)⟩ hbig hle
  generalize shB p.fs = sh at *
  repeat refine c_seq ?_
  refine c_region ?_
  refine qm rfl rfl ?_
  refine step_pure rfl (pure_len_slice rfl rfl rfl) ?_
  refine step_pure rfl (pure_gtr rfl rfl) ?_
  refine qm rfl rfl ?_
  refine step_split (t := 17) rfl (fun h17 => ?_) (fun h17 => ?_)
  ·refine qp rfl rfl rfl ?_
   refine qp rfl rfl rfl ?_
   refine qp rfl rfl rfl ?_
   refine step_pure rfl (pure_pick_yes rfl rfl) ?_
   refine step_nil ?_
   refine less_of ⟨rfl, rfl, rfl, ?_, trivial⟩ rfl
   refine congrArg some (congrArg Value.bool ?_)
   clear hsh hv hk
   simp_all
   try (intro h; omega)
  ·refine step_pure rfl (pure_load_agg (i := 0) rfl rfl rfl rfl rfl (by show 3 ≤ 3; decide) rfl) ?_
   refine step_gives rfl fun10 rfl (fun w' hh kp => hsh w' kp) ?_
   refine step_pure rfl (pure_not rfl) ?_
   refine step_pure rfl (pure_pick_no rfl rfl) ?_
   refine step_nil ?_
   refine less_of ⟨rfl, rfl, rfl, ?_, trivial⟩ rfl
   refine congrArg some (congrArg Value.bool ?_)
   clear hsh hv hk
   simp_all
   try (intro h; omega)
 repeat refine s_seqs ?_
 refine s_cond rfl (fun h => ?_) (fun h => ?_)
 ·repeat refine s_seqs ?_
  refine s_reg ?_
  refine qm rfl rfl ?_
  refine qa rfl rfl ?_
  refine Vc.step_end (fun a w ok => ?_)
  first | (refine WPs.run ?_ a w ok; clear ok w a) | skip
  exact s_ret fun a w ok => ends_k on (.inr rfl) ok (res_tmp Try.results3 rfl)
 obtain ⟨h300, -⟩ := or_no h
 have hsl : secret.length ≤ 300 := by have := of_decide_eq_false h300; omega
 clear h h300
 refine s_skip fun a w ok => WPs.run ?_ a w ok
 clear ok w a
 have hKl := derK_len secret
 have hKb := derK_bytes secret
 have hder := fun w' h => derive_any secret (.slice kb secret.length kc) w' h hsb (by omega)
 have hrder := fun w' h => rderive_any secret (.slice kb secret.length kc) w' h hsb (by omega)
 generalize derK secret = K at *
 have hsz := szF_len K p
 repeat refine s_seqs ?_
 refine s_reg ?_
 refine qm rfl rfl ?_
 refine step_gives rfl fun11 rfl (fun w' hh kp => hder w' (hk.mono (Cz.now kp))) ?_
 refine step_alloc rfl zero33 (fun b6 => ?_)
 refine step_store_agg 0 rfl rfl rfl (row_one _) rfl (by rw [row_len]; exact hKl) rfl rfl (Nat.le_of_ble_eq_true rfl) (splice_all (by rw [row_len, hKl]; rfl)) ?_
 refine Vc.step_end (fun a w ok => ?_)
 first | (refine WPs.run ?_ a w ok; clear ok w a) | skip
 repeat refine s_seqs ?_
 refine s_reg ?_
 refine step_pure rfl (pure_load_agg (i := 0) rfl rfl rfl rfl rfl (by show 0 + 96 ≤ (row K).length; rw [row_len, hKl]; decide) (ints_whole _ _ 96 hKl)) ?_
 refine step_pure rfl (pure_load_agg (i := 1) rfl rfl rfl rfl rfl (by show 3 ≤ 3; decide) rfl) ?_
 refine step_givesP on.sc rfl fun12 rfl (fun w' Z' hh kp hZ hC => seal_P K p _ w' hZ hKl hKb ⟨_, rfl, hv.mono (Cz.now kp)⟩ hbig) ?_
 rintro u E1 g ⟨v1, rfl, hw1⟩
 replace on := on.next g
 replace hv := hv.mono g.cz
 replace hk := hk.mono g.cz
 clear g
 refine qm rfl rfl ?_
 refine qx rfl rfl rfl ?_
 refine qx rfl rfl rfl ?_
 refine qa rfl rfl ?_
 refine qa rfl rfl ?_
 refine Vc.step_end (fun a w ok => ?_)
 first | (refine WPs.run ?_ a w ok; clear ok w a) | skip
 obtain ⟨base1, cap1, rfl, hcap1⟩ := slc_str hw1
 repeat refine s_seqs ?_
 refine s_dreg [3, 11, 19, 28, 33, 41, 49, 57, 65] ([⟨b6, row K, 33⟩, ⟨b3, [.int .i64 p.side, .int .i64 p.num, .slice fb p.fs.length fc], 25⟩]) follows (by kernel_rfl) ?_
 refine d_pure1 rfl rfl rfl (pure_load_agg (i := 0) rfl rfl rfl rfl rfl (by show 0 + 96 ≤ (row K).length; rw [row_len, hKl]; decide) (ints_whole _ _ 96 hKl)) (by first | exact SubMem.refl _ | exact (SubMem.refl _).cons | exact (SubMem.refl _).cons.cons | exact (SubMem.refl _).cons.cons.cons | exact (SubMem.refl _).cons.cons.cons.cons | exact (fun w hh => Has.sublist (by repeat (first | exact List.Sublist.refl _ | exact List.nil_sublist _ | apply List.Sublist.cons_cons | apply List.Sublist.cons)) hh)) ?_
 refine d_gives rfl rfl rfl fun14 rfl (fun w _ _ => lkeys_any K w hKl) (by first | exact SubMem.refl _ | exact (SubMem.refl _).cons | exact (SubMem.refl _).cons.cons | exact (SubMem.refl _).cons.cons.cons | exact (SubMem.refl _).cons.cons.cons.cons | exact (fun w hh => Has.sublist (by repeat (first | exact List.Sublist.refl _ | exact List.nil_sublist _ | apply List.Sublist.cons_cons | apply List.Sublist.cons)) hh)) ?_
 refine d_pure1 rfl rfl rfl (pure_load_agg (i := 1) rfl rfl rfl rfl rfl (by show 3 ≤ 3; decide) rfl) (by first | exact SubMem.refl _ | exact (SubMem.refl _).cons | exact (SubMem.refl _).cons.cons | exact (SubMem.refl _).cons.cons.cons | exact (SubMem.refl _).cons.cons.cons.cons | exact (fun w hh => Has.sublist (by repeat (first | exact List.Sublist.refl _ | exact List.nil_sublist _ | apply List.Sublist.cons_cons | apply List.Sublist.cons)) hh)) ?_
 refine d_givesP on.sc rfl rfl rfl fun13 rfl (fun w' Z' hh kp hZ hC => rseal_P K p _ w' hZ hKl hKb ⟨_, rfl, hv.mono (Cz.now kp)⟩ hbig) rfl ?_
 rintro u E2 g ⟨v2, rfl, hw2⟩
 replace on := on.next g
 replace hv := hv.mono g.cz
 replace hk := hk.mono g.cz
 replace hw1 := hw1.mono g.cz
 clear g
 refine qd rfl rfl rfl rfl ?_
 refine d_pure0 rfl rfl rfl (pure_extract rfl rfl) ?_
 refine d_pure0 rfl rfl rfl (pure_extract rfl rfl) ?_
 refine d_pure0 rfl rfl rfl (pure_assign rfl) ?_
 refine d_pure0 rfl rfl rfl (pure_assign rfl) ?_
 refine d_end (fun a w ok => ?_)
 first | (refine WPs.run ?_ a w ok; clear ok w a) | skip
 obtain ⟨base2, cap2, rfl, hcap2⟩ := slc_str hw2
 repeat refine s_seqs ?_
 refine s_reg ?_
 refine step_pure rfl (pure_load_agg (i := 1) rfl rfl rfl rfl rfl (by show 3 ≤ 3; decide) rfl) ?_
 refine step_gives rfl fun15 rfl (fun w' hh kp => ssize_any p _ w' ⟨_, rfl, hv.mono (Cz.now kp)⟩ hbig) ?_
 refine qm rfl rfl ?_
 refine qx rfl rfl rfl ?_
 refine qx rfl rfl rfl ?_
 refine qa rfl rfl ?_
 refine qa rfl rfl ?_
 refine Vc.step_end (fun a w ok => ?_)
 first | (refine WPs.run ?_ a w ok; clear ok w a) | skip
 rw [hsz]
 clear hv hsz
 generalize sealB K p = S at *
 generalize pE p = pe at *
 repeat refine s_seqs ?_
 refine s_reg ?_
 refine qm rfl rfl ?_
 refine qm rfl rfl ?_
 refine step_pure rfl (pure_load_agg (i := 0) rfl rfl rfl rfl rfl (by show 0 + 96 ≤ (row K).length; rw [row_len, hKl]; decide) (ints_whole _ _ 96 hKl)) ?_
 refine step_gives rfl fun14 rfl (fun w _ _ => lkeys_any K w hKl) ?_
 refine qm rfl rfl ?_
 refine step_gives rfl fun16 rfl (fun w' hh kp => hrder w' (hk.mono (Cz.now kp))) ?_
 refine step_pure rfl (pure_eql_keys rfl rfl hKl) ?_
 refine step_pure rfl (pure_pick_yes rfl rfl) ?_
 refine qm rfl rfl ?_
 refine qm rfl rfl ?_
 refine step_pure rfl (pure_cz_string rfl rfl rfl rfl rfl rfl rfl hw1) ?_
 refine qm rfl rfl ?_
 refine step_pure rfl (pure_cz_string rfl rfl rfl rfl rfl rfl rfl hw2) ?_
 refine step_as rfl (pure_str_eql rfl rfl) (show _ = Value.bool true from by rw [beq_self_eq_true]) ?_
 refine step_pure rfl (pure_pick_yes rfl rfl) ?_
 refine qm rfl rfl ?_
 refine qm rfl rfl ?_
 refine qm rfl rfl ?_
 refine step_as rfl (pure_eql rfl rfl) (show _ = Value.bool true from by rw [beq_self_eq_true]) ?_
 refine step_pure rfl (pure_pick_yes rfl rfl) ?_
 refine qm rfl rfl ?_
 refine qm rfl rfl ?_
 refine qm rfl rfl ?_
 refine step_pure rfl (pure_len_slice rfl rfl rfl) ?_
 refine step_as rfl (pure_eql rfl rfl) (show _ = Value.bool true from by rw [beq_self_eq_true]) ?_
 refine step_pure rfl (pure_pick_yes rfl rfl) ?_
 refine qm rfl rfl ?_
 refine qm rfl rfl ?_
 refine qm rfl rfl ?_
 refine step_as rfl (pure_eql rfl rfl) (show _ = Value.bool true from by rw [beq_self_eq_true]) ?_
 refine step_pure rfl (pure_pick_yes rfl rfl) ?_
 refine qa rfl rfl ?_
 refine Vc.step_end (fun a w ok => ?_)
 first | (refine WPs.run ?_ a w ok; clear ok w a) | skip
 exact s_ret fun a w ok => ends_k on (.inr rfl) ok (res_tmp Try.results3 rfl)
end Go.Proofs.Ythieegnhjoehbaa
