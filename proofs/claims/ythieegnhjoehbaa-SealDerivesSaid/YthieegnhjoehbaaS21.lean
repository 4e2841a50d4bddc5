/- The law SealDerives, walked. -/
import Derived.Test.YthieegnhjoehbaaS17
namespace Go.Proofs.Ythieegnhjoehbaa
open Go.RowKit Go.Vc
set_option linter.unusedVariables false
theorem guard32 : tb.P.eqGuardType tb.P.depth 30 = false := by kernel_rfl
theorem cEnc1 : bytesOf (⟨#[101, 110, 99, 32, 99, 108, 105, 101, 110, 116]⟩ : ByteArray) = encN 1 := by rfl
theorem cEnc0 : bytesOf (⟨#[101, 110, 99, 32, 115, 101, 114, 118, 101, 114]⟩ : ByteArray) = encN 0 := by rfl
theorem cMac1 : bytesOf (⟨#[109, 97, 99, 32, 99, 108, 105, 101, 110, 116]⟩ : ByteArray) = macN 1 := by rfl
theorem cMac0 : bytesOf (⟨#[109, 97, 99, 32, 115, 101, 114, 118, 101, 114]⟩ : ByteArray) = macN 0 := by rfl
theorem derK_parts (secret : List Int) : encK (derK secret) 0 = dEnc secret 0 ∧ encK (derK secret) 1 = dEnc secret 1 ∧ macK (derK secret) 0 = dMac secret 0 ∧ macK (derK secret) 1 = dMac secret 1 :=
 ⟨kp_enc0 (tagF_len _ _), kp_enc1 (tagF_len _ _) (tagF_len _ _), kp_mac0 (tagF_len _ _) (tagF_len _ _) (macF_len _ _), kp_mac1 (tagF_len _ _) (tagF_len _ _) (macF_len _ _) (macF_len _ _)⟩
set_option maxHeartbeats 4000000 in
theorem sealderives_any (secret : List Int) (kv : Value) (p : Pk) (cs : List Value) (w : World) (hk : SlC (At w) 1 kv secret.length (row secret)) (hsb : Bytes secret) (hp : PkC (At w) p cs) (hbig : ∀ f ∈ p.fs, f.data.length ≤ maxLen) (hle : p.fs.length ≤ maxLen) :
  Gives tb 8 [kv, .agg cs.toArray] w (.bool true) := by
 obtain ⟨fv, rfl, hv⟩ := hp
 replace hv : FrsC (Cz (fun _ => True) ⟨w, [], []⟩) fv p.fs := hv.mono fun p x h => ⟨⟨h, by simp⟩, trivial⟩
 replace hk : SlC (Cz (fun _ => True) ⟨w, [], []⟩) 1 kv secret.length (row secret) := hk.mono fun p x h => ⟨⟨h, by simp⟩, trivial⟩
 obtain ⟨fb, fc, rfl, hfc⟩ := hv.slice
 obtain ⟨kb, kc, rfl, hkc⟩ := slc_str hk
 refine gives_ofk (fn := Try.f8) Try.func8 rfl Try.ntmps8 rfl (fun on => ?_)
 repeat refine s_seqs ?_
 refine s_reg ?_
 refine step_box_agg rfl rfl (fun b3 => ?_)
 refine qa rfl rfl ?_
 refine Vc.step_end (fun a w ok => ?_)
 first | (refine WPs.run ?_ a w ok; clear ok w a) | skip
 repeat refine s_seqs ?_
 refine s_reg ?_
 refine step_gives rfl fun9 rfl (fun w _ _ => sawake_any w) ?_
 refine qa rfl rfl ?_
 refine Vc.step_end (fun a w ok => ?_)
 first | (refine WPs.run ?_ a w ok; clear ok w a) | skip
 repeat refine s_seqs ?_
 refine s_meet [(0, .slice kb secret.length kc), (3, .pointer (some ⟨b3, 0, none⟩)), (5, .bool true), (21, .bool (decide ((secret.length : Int) > 300) || !shB p.fs))] [⟨b3, [.int .i64 p.side, .int .i64 p.num, .slice fb p.fs.length fc], 25⟩] ?_ (fun a9 w9 ok9 => WPs.run ?_ a9 w9 ok9)
 ·have hsh := fun w' (kp : Keep w w' []) => short_any p _ w' ⟨_, rfl, hv.mono (Cz.now kp)⟩ hbig hle
  generalize shB p.fs = sh at *
  repeat refine c_seq ?_
  refine c_region ?_
  refine qm rfl rfl ?_
  refine step_pure rfl (pure_len_slice rfl rfl rfl) ?_
  refine step_pure rfl (pure_gtr rfl rfl) ?_
  refine qm rfl rfl ?_
  refine step_split (t := 17) rfl (fun h17 => ?_) (fun h17 => ?_)
  ·refine qp rfl rfl rfl ?_
   refine qp rfl rfl rfl ?_
   refine qp rfl rfl rfl ?_
   refine step_pure rfl (pure_pick_yes rfl rfl) ?_
   refine step_nil ?_
   refine less_of ⟨rfl, rfl, rfl, ?_, trivial⟩ rfl
   refine congrArg some (congrArg Value.bool ?_)
   clear hsh hv hk
   simp_all
   try (intro h; omega)
  ·refine step_pure rfl (pure_load_agg (i := 0) rfl rfl rfl rfl rfl (by show 3 ≤ 3; decide) rfl) ?_
   refine step_gives rfl fun10 rfl (fun w' hh kp => hsh w' kp) ?_
   refine step_pure rfl (pure_not rfl) ?_
   refine step_pure rfl (pure_pick_no rfl rfl) ?_
   refine step_nil ?_
   refine less_of ⟨rfl, rfl, rfl, ?_, trivial⟩ rfl
   refine congrArg some (congrArg Value.bool ?_)
   clear hsh hv hk
   simp_all
   try (intro h; omega)
 repeat refine s_seqs ?_
 refine s_cond rfl (fun h => ?_) (fun h => ?_)
 ·repeat refine s_seqs ?_
  refine s_reg ?_
  refine qm rfl rfl ?_
  refine qa rfl rfl ?_
  refine Vc.step_end (fun a w ok => ?_)
  first | (refine WPs.run ?_ a w ok; clear ok w a) | skip
  exact s_ret fun a w ok => ends_k on (.inr rfl) ok (res_tmp Try.results8 rfl)
 obtain ⟨h300, -⟩ := or_no h
 have hsl : secret.length ≤ 300 := by have := of_decide_eq_false h300; omega
 clear h h300
 refine s_skip fun a w ok => WPs.run ?_ a w ok
 clear ok w a
 have hKl := derK_len secret
 have hKb := derK_bytes secret
 obtain ⟨he0, he1, hm0, hm1⟩ := derK_parts secret
 have hder := fun w' h => derive_any secret (.slice kb secret.length kc) w' h hsb (by omega)
 have hk1 := fun w' h => macKey_any secret (.slice kb secret.length kc) ⟨#[101, 110, 99, 32, 99, 108, 105, 101, 110, 116]⟩ w' h hsb (by omega) (by decide)
 have hk0 := fun w' h => macKey_any secret (.slice kb secret.length kc) ⟨#[101, 110, 99, 32, 115, 101, 114, 118, 101, 114]⟩ w' h hsb (by omega) (by decide)
 have hq1 := fun w' h => macKey_any secret (.slice kb secret.length kc) ⟨#[109, 97, 99, 32, 99, 108, 105, 101, 110, 116]⟩ w' h hsb (by omega) (by decide)
 have hq0 := fun w' h => macKey_any secret (.slice kb secret.length kc) ⟨#[109, 97, 99, 32, 115, 101, 114, 118, 101, 114]⟩ w' h hsb (by omega) (by decide)
 simp only [cEnc1, cEnc0, cMac1, cMac0] at hk1 hk0 hq1 hq0
 have hl1 := macF_len secret (encN 1)
 have hl0 := macF_len secret (encN 0)
 have hn1 := macF_len secret (macN 1)
 have hn0 := macF_len secret (macN 0)
 generalize derK secret = K at *
 have ht1 : encK K 1 = (macF secret (encN 1)).take 16 := he1
 have ht0 : encK K 0 = (macF secret (encN 0)).take 16 := he0
 have hr1 : macK K 1 = macF secret (macN 1) := hm1
 have hr0 : macK K 0 = macF secret (macN 0) := hm0
 clear he0 he1 hm0 hm1
 generalize macF secret (encN 1) = A1 at *
 generalize macF secret (encN 0) = A0 at *
 generalize macF secret (macN 1) = M1 at *
 generalize macF secret (macN 0) = M0 at *
 repeat refine s_seqs ?_
 refine s_reg ?_
 refine qm rfl rfl ?_
 refine step_gives rfl fun11 rfl (fun w' hh kp => hder w' (hk.mono (Cz.now kp))) ?_
 refine step_alloc rfl zero33 (fun b6 => ?_)
 refine step_store_agg 0 rfl rfl rfl (row_one _) rfl (by rw [row_len]; exact hKl) rfl rfl (Nat.le_of_ble_eq_true rfl) (splice_all (by rw [row_len, hKl]; rfl)) ?_
 refine Vc.step_end (fun a w ok => ?_)
 first | (refine WPs.run ?_ a w ok; clear ok w a) | skip
 repeat refine s_seqs ?_
 refine s_reg ?_
 refine qm rfl rfl ?_
 refine step_gives rfl fun23 rfl (fun w' hh kp => hk1 w' (hk.mono (Cz.now kp))) ?_
 refine step_alloc rfl zero30 (fun b7 => ?_)
 refine step_store_agg 0 rfl rfl rfl (row_one _) rfl (by rw [row_len]; exact hl1) rfl rfl (Nat.le_of_ble_eq_true rfl) (splice_all (by rw [row_len, hl1]; rfl)) ?_
 refine Vc.step_end (fun a w ok => ?_)
 first | (refine WPs.run ?_ a w ok; clear ok w a) | skip
 repeat refine s_seqs ?_
 refine s_reg ?_
 refine qm rfl rfl ?_
 refine step_gives rfl fun23 rfl (fun w' hh kp => hk0 w' (hk.mono (Cz.now kp))) ?_
 refine step_alloc rfl zero30 (fun b8 => ?_)
 refine step_store_agg 0 rfl rfl rfl (row_one _) rfl (by rw [row_len]; exact hl0) rfl rfl (Nat.le_of_ble_eq_true rfl) (splice_all (by rw [row_len, hl0]; rfl)) ?_
 refine Vc.step_end (fun a w ok => ?_)
 first | (refine WPs.run ?_ a w ok; clear ok w a) | skip
 repeat refine s_seqs ?_
 refine s_reg ?_
 refine step_pure rfl (pure_load_agg (i := 2) rfl rfl rfl rfl rfl (by show 0 + 96 ≤ (row K).length; rw [row_len, hKl]; decide) (ints_whole _ _ 96 hKl)) ?_
 refine step_pure rfl (pure_load_agg (i := 3) rfl rfl rfl rfl rfl (by show 3 ≤ 3; decide) rfl) ?_
 refine step_givesP on.sc rfl fun12 rfl (fun w' Z' hh kp hZ hC => seal_P K p _ w' hZ hKl hKb ⟨_, rfl, hv.mono (Cz.now kp)⟩ hbig) ?_
 rintro u E1 g ⟨v1, rfl, hw1⟩
 replace on := on.next g
 replace hv := hv.mono g.cz
 replace hk := hk.mono g.cz
 clear g
 refine qm rfl rfl ?_
 refine qx rfl rfl rfl ?_
 refine qx rfl rfl rfl ?_
 refine qa rfl rfl ?_
 refine qa rfl rfl ?_
 refine Vc.step_end (fun a w ok => ?_)
 first | (refine WPs.run ?_ a w ok; clear ok w a) | skip
 obtain ⟨base1, cap1, rfl, hcap1⟩ := slc_str hw1
 repeat refine s_seqs ?_
 refine s_reg ?_
 refine step_pure rfl (pure_load_agg (i := 2) rfl rfl rfl rfl rfl (by show 0 + 96 ≤ (row K).length; rw [row_len, hKl]; decide) (ints_whole _ _ 96 hKl)) ?_
 refine step_pure rfl (pure_load_agg (i := 3) rfl rfl rfl rfl rfl (by show 3 ≤ 3; decide) rfl) ?_
 refine step_givesP on.sc rfl fun12 rfl (fun w' Z' hh kp hZ hC => seal_P K p _ w' hZ hKl hKb ⟨_, rfl, hv.mono (Cz.now kp)⟩ hbig) ?_
 rintro u E2 g ⟨v2, rfl, hw2⟩
 replace on := on.next g
 replace hw1 := hw1.mono g.cz
 replace hk := hk.mono g.cz
 clear g hv
 refine qm rfl rfl ?_
 refine qx rfl rfl rfl ?_
 refine qx rfl rfl rfl ?_
 refine qa rfl rfl ?_
 refine qa rfl rfl ?_
 refine Vc.step_end (fun a w ok => ?_)
 first | (refine WPs.run ?_ a w ok; clear ok w a) | skip
 obtain ⟨base2, cap2, rfl, hcap2⟩ := slc_str hw2
 generalize sealB K p = S at *
 generalize pE p = pe at *
 have hd0 : ((row K).drop 32).take 32 = row M0 := by rw [ints_sub, ← hr0]; rfl
 have hd1 : ((row K).drop 64).take 32 = row M1 := by rw [ints_sub, ← hr1]; rfl
 have hslv : ∀ (w' : World) (t j off n c : Nat) (l X : List Int) (m : Mem) (b : Nat), Has w' m → nth m j = some ⟨b, row l, t⟩ → off + n ≤ l.length → n ≤ c → (l.drop off).take n = X → SlV w' (.slice (some ⟨b, off, none⟩) n c) (row X) := fun w' t j off n c l X m b hh he hl hc hX => by
  have := (slc_blk hh he hl hc).slv
  rw [hX] at this
  exact this
 repeat refine s_seqs ?_
 refine s_dreg [1, 9, 17, 25, 35, 41, 51, 57, 65, 73, 81, 89, 99, 105, 115, 121, 129, 137, 145, 153, 161, 171, 177, 187, 193, 201, 209, 217, 225, 233, 243, 249, 259, 265, 273, 281, 289, 299, 305, 315, 321, 329, 337, 345, 353, 361, 369, 377] ([⟨b8, row A0, 30⟩, ⟨b7, row A1, 30⟩, ⟨b6, row K, 33⟩]) follows (by kernel_rfl) ?_
 refine qd rfl rfl rfl rfl ?_
 refine qd rfl rfl rfl rfl ?_
 refine d_pure0 rfl rfl rfl (pure_fieldAddr rfl rfl rfl rfl rfl (by decide)) ?_
 first | refine d_pure0 rfl rfl rfl (pure_ix rfl rfl rfl rfl rfl (by decide) (by decide) rfl) ?_ | refine d_pure0 rfl rfl rfl (pure_ix rfl rfl rfl rfl rfl (by omega) (by omega) rfl) ?_
 refine d_pure1 rfl rfl rfl (pure_load_agg (i := 2) rfl rfl rfl rfl rfl (by show 32 + 32 ≤ (row K).length; rw [row_len, hKl]; decide) hd0) (by first | exact SubMem.refl _ | exact (SubMem.refl _).cons | exact (SubMem.refl _).cons.cons | exact (SubMem.refl _).cons.cons.cons | exact (SubMem.refl _).cons.cons.cons.cons | exact (fun w hh => Has.sublist (by repeat (first | exact List.Sublist.refl _ | exact List.nil_sublist _ | apply List.Sublist.cons_cons | apply List.Sublist.cons)) hh)) ?_
 refine qd rfl rfl rfl rfl ?_
 refine d_gives rfl rfl rfl fun23 rfl (fun w' hh kp => hq0 w' (hk.mono (Cz.now kp))) (by first | exact SubMem.refl _ | exact (SubMem.refl _).cons | exact (SubMem.refl _).cons.cons | exact (SubMem.refl _).cons.cons.cons | exact (SubMem.refl _).cons.cons.cons.cons | exact (fun w hh => Has.sublist (by repeat (first | exact List.Sublist.refl _ | exact List.nil_sublist _ | apply List.Sublist.cons_cons | apply List.Sublist.cons)) hh)) ?_
 refine d_as0 rfl rfl rfl (pure_eql_arr rfl rfl guard32 rfl rfl rfl rfl rfl rfl hn0 hn0) (show _ = Value.bool true from by rw [decide_eq_true rfl]) ?_
 refine d_pure0 rfl rfl rfl (pure_pick_yes rfl rfl) ?_
 refine qd rfl rfl rfl rfl ?_
 refine d_pure0 rfl rfl rfl (pure_fieldAddr rfl rfl rfl rfl rfl (by decide)) ?_
 first | refine d_pure0 rfl rfl rfl (pure_ix rfl rfl rfl rfl rfl (by decide) (by decide) rfl) ?_ | refine d_pure0 rfl rfl rfl (pure_ix rfl rfl rfl rfl rfl (by omega) (by omega) rfl) ?_
 refine d_pure1 rfl rfl rfl (pure_load_agg (i := 2) rfl rfl rfl rfl rfl (by show 64 + 32 ≤ (row K).length; rw [row_len, hKl]; decide) hd1) (by first | exact SubMem.refl _ | exact (SubMem.refl _).cons | exact (SubMem.refl _).cons.cons | exact (SubMem.refl _).cons.cons.cons | exact (SubMem.refl _).cons.cons.cons.cons | exact (fun w hh => Has.sublist (by repeat (first | exact List.Sublist.refl _ | exact List.nil_sublist _ | apply List.Sublist.cons_cons | apply List.Sublist.cons)) hh)) ?_
 refine qd rfl rfl rfl rfl ?_
 refine d_gives rfl rfl rfl fun23 rfl (fun w' hh kp => hq1 w' (hk.mono (Cz.now kp))) (by first | exact SubMem.refl _ | exact (SubMem.refl _).cons | exact (SubMem.refl _).cons.cons | exact (SubMem.refl _).cons.cons.cons | exact (SubMem.refl _).cons.cons.cons.cons | exact (fun w hh => Has.sublist (by repeat (first | exact List.Sublist.refl _ | exact List.nil_sublist _ | apply List.Sublist.cons_cons | apply List.Sublist.cons)) hh)) ?_
 refine d_as0 rfl rfl rfl (pure_eql_arr rfl rfl guard32 rfl rfl rfl rfl rfl rfl hn1 hn1) (show _ = Value.bool true from by rw [decide_eq_true rfl]) ?_
 refine d_pure0 rfl rfl rfl (pure_pick_yes rfl rfl) ?_
 refine qd rfl rfl rfl rfl ?_
 refine d_pure0 rfl rfl rfl (pure_fieldAddr rfl rfl rfl rfl rfl (by decide)) ?_
 first | refine d_pure0 rfl rfl rfl (pure_ix rfl rfl rfl rfl rfl (by decide) (by decide) rfl) ?_ | refine d_pure0 rfl rfl rfl (pure_ix rfl rfl rfl rfl rfl (by omega) (by omega) rfl) ?_
 refine d_as0 rfl rfl rfl (pure_slice_all rfl rfl rfl rfl) (show _ = Value.slice (some ⟨b6, 16, none⟩) 16 16 from rfl) ?_
 refine d_pure1 rfl rfl rfl (pure_sl_string (ns := A1.take 16) rfl rfl rfl rfl rfl rfl rfl (fun w' hh kp => hslv w' _ 2 16 16 16 K _ _ b6 hh rfl (by omega) (Nat.le_refl _) ht1)) (by first | exact SubMem.refl _ | exact (SubMem.refl _).cons | exact (SubMem.refl _).cons.cons | exact (SubMem.refl _).cons.cons.cons | exact (SubMem.refl _).cons.cons.cons.cons | exact (fun w hh => Has.sublist (by repeat (first | exact List.Sublist.refl _ | exact List.nil_sublist _ | apply List.Sublist.cons_cons | apply List.Sublist.cons)) hh)) ?_
 refine d_as0 rfl rfl rfl (pure_arr_hi rfl rfl rfl rfl rfl (by decide) (by decide)) (show _ = Value.slice (some ⟨b7, 0, none⟩) 16 32 from rfl) ?_
 refine d_pure1 rfl rfl rfl (pure_sl_string (ns := A1.take 16) rfl rfl rfl rfl rfl rfl rfl (fun w' hh kp => hslv w' _ 1 0 16 32 A1 _ _ b7 hh rfl (by omega) (by decide) rfl)) (by first | exact SubMem.refl _ | exact (SubMem.refl _).cons | exact (SubMem.refl _).cons.cons | exact (SubMem.refl _).cons.cons.cons | exact (SubMem.refl _).cons.cons.cons.cons | exact (fun w hh => Has.sublist (by repeat (first | exact List.Sublist.refl _ | exact List.nil_sublist _ | apply List.Sublist.cons_cons | apply List.Sublist.cons)) hh)) ?_
 refine d_as0 rfl rfl rfl (pure_str_eql rfl rfl) (show _ = Value.bool true from by rw [beq_self_eq_true]) ?_
 refine d_pure0 rfl rfl rfl (pure_pick_yes rfl rfl) ?_
 refine qd rfl rfl rfl rfl ?_
 refine d_pure0 rfl rfl rfl (pure_fieldAddr rfl rfl rfl rfl rfl (by decide)) ?_
 first | refine d_pure0 rfl rfl rfl (pure_ix rfl rfl rfl rfl rfl (by decide) (by decide) rfl) ?_ | refine d_pure0 rfl rfl rfl (pure_ix rfl rfl rfl rfl rfl (by omega) (by omega) rfl) ?_
 refine d_as0 rfl rfl rfl (pure_slice_all rfl rfl rfl rfl) (show _ = Value.slice (some ⟨b6, 0, none⟩) 16 16 from rfl) ?_
 refine d_pure1 rfl rfl rfl (pure_sl_string (ns := A0.take 16) rfl rfl rfl rfl rfl rfl rfl (fun w' hh kp => hslv w' _ 2 0 16 16 K _ _ b6 hh rfl (by omega) (Nat.le_refl _) ht0)) (by first | exact SubMem.refl _ | exact (SubMem.refl _).cons | exact (SubMem.refl _).cons.cons | exact (SubMem.refl _).cons.cons.cons | exact (SubMem.refl _).cons.cons.cons.cons | exact (fun w hh => Has.sublist (by repeat (first | exact List.Sublist.refl _ | exact List.nil_sublist _ | apply List.Sublist.cons_cons | apply List.Sublist.cons)) hh)) ?_
 refine d_as0 rfl rfl rfl (pure_arr_hi rfl rfl rfl rfl rfl (by decide) (by decide)) (show _ = Value.slice (some ⟨b8, 0, none⟩) 16 32 from rfl) ?_
 refine d_pure1 rfl rfl rfl (pure_sl_string (ns := A0.take 16) rfl rfl rfl rfl rfl rfl rfl (fun w' hh kp => hslv w' _ 0 0 16 32 A0 _ _ b8 hh rfl (by omega) (by decide) rfl)) (by first | exact SubMem.refl _ | exact (SubMem.refl _).cons | exact (SubMem.refl _).cons.cons | exact (SubMem.refl _).cons.cons.cons | exact (SubMem.refl _).cons.cons.cons.cons | exact (fun w hh => Has.sublist (by repeat (first | exact List.Sublist.refl _ | exact List.nil_sublist _ | apply List.Sublist.cons_cons | apply List.Sublist.cons)) hh)) ?_
 refine d_as0 rfl rfl rfl (pure_str_eql rfl rfl) (show _ = Value.bool true from by rw [beq_self_eq_true]) ?_
 refine d_pure0 rfl rfl rfl (pure_pick_yes rfl rfl) ?_
 refine qd rfl rfl rfl rfl ?_
 refine qd rfl rfl rfl rfl ?_
 refine d_pure1 rfl rfl rfl (pure_cz_string rfl rfl rfl rfl rfl rfl rfl hw1) (by first | exact SubMem.refl _ | exact (SubMem.refl _).cons | exact (SubMem.refl _).cons.cons | exact (SubMem.refl _).cons.cons.cons | exact (SubMem.refl _).cons.cons.cons.cons | exact (fun w hh => Has.sublist (by repeat (first | exact List.Sublist.refl _ | exact List.nil_sublist _ | apply List.Sublist.cons_cons | apply List.Sublist.cons)) hh)) ?_
 refine qd rfl rfl rfl rfl ?_
 refine d_pure1 rfl rfl rfl (pure_cz_string rfl rfl rfl rfl rfl rfl rfl hw2) (by first | exact SubMem.refl _ | exact (SubMem.refl _).cons | exact (SubMem.refl _).cons.cons | exact (SubMem.refl _).cons.cons.cons | exact (SubMem.refl _).cons.cons.cons.cons | exact (fun w hh => Has.sublist (by repeat (first | exact List.Sublist.refl _ | exact List.nil_sublist _ | apply List.Sublist.cons_cons | apply List.Sublist.cons)) hh)) ?_
 refine d_as0 rfl rfl rfl (pure_str_eql rfl rfl) (show _ = Value.bool true from by rw [beq_self_eq_true]) ?_
 refine d_pure0 rfl rfl rfl (pure_pick_yes rfl rfl) ?_
 refine qd rfl rfl rfl rfl ?_
 refine qd rfl rfl rfl rfl ?_
 refine qd rfl rfl rfl rfl ?_
 refine d_as0 rfl rfl rfl (pure_eql rfl rfl) (show _ = Value.bool true from by rw [beq_self_eq_true]) ?_
 refine d_pure0 rfl rfl rfl (pure_pick_yes rfl rfl) ?_
 refine d_pure0 rfl rfl rfl (pure_assign rfl) ?_
 refine d_end (fun a w ok => ?_)
 first | (refine WPs.run ?_ a w ok; clear ok w a) | skip
 exact s_ret fun a w ok => ends_k on (.inr rfl) ok (res_tmp Try.results8 rfl)
end Go.Proofs.Ythieegnhjoehbaa
