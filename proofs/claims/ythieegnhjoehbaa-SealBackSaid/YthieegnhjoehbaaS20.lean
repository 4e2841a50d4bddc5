/- The law SealBack, walked. -/
import Derived.Test.YthieegnhjoehbaaS16
namespace Go.Proofs.Ythieegnhjoehbaa
open Go.RowKit Go.Vc
set_option linter.unusedVariables false
theorem splice_get {α : Type} (l x : List α) (o : Nat) (h : o + x.length ≤ l.length) : ((splice l o x).drop o).take x.length = x := by
 have h1 : (l.take o).length = o := by rw [List.length_take]; omega
 unfold splice
 rw [List.append_assoc, List.drop_append_of_le_length (by omega), List.drop_eq_nil_of_le (by omega), List.nil_append, List.take_left]
theorem splice_before {α : Type} (l x : List α) (o q n : Nat) (h : q + n ≤ o) (hl : o ≤ l.length) : ((splice l o x).drop q).take n = (l.drop q).take n := by
 have h1 : (l.take o).length = o := by rw [List.length_take]; omega
 unfold splice
 rw [List.append_assoc, List.drop_append_of_le_length (by omega), List.take_append_of_le_length (by rw [List.length_drop]; omega), List.drop_take, List.take_take, Nat.min_eq_left (by omega)]
/-- Keys of which one side's are another's. -/
def mixK (K O : List Int) (s : Nat) : List Int := splice (splice O (16 * s) (encK K s)) (32 + 32 * s) (macK K s)
section
variable {K O : List Int} {s : Nat} (hK : K.length = 96) (hO : O.length = 96) (hs : s < 2)
include hK hO hs
theorem mixK1_len : (splice O (16 * s) (encK K s)).length = 96 := by rw [splice_len (by rw [encK_len hK hs]; omega), hO]
theorem mixK_len : (mixK K O s).length = 96 := by
 unfold mixK
 rw [splice_len (by rw [macK_len hK hs, mixK1_len hK hO hs]; omega), mixK1_len hK hO hs]
theorem mixK_mac : macK (mixK K O s) s = macK K s := by
 have := splice_get (splice O (16 * s) (encK K s)) (macK K s) (32 + 32 * s) (by rw [macK_len hK hs, mixK1_len hK hO hs]; omega)
 rw [macK_len hK hs] at this
 exact this
theorem mixK_enc : encK (mixK K O s) s = encK K s := by
 have h1 := splice_before (splice O (16 * s) (encK K s)) (macK K s) (32 + 32 * s) (16 * s) 16 (by omega) (by rw [mixK1_len hK hO hs]; omega)
 have h2 := splice_get O (encK K s) (16 * s) (by rw [encK_len hK hs]; omega)
 rw [encK_len hK hs] at h2
 exact h1.trans h2
end
theorem mixK_bytes {K O : List Int} (hK : Bytes K) (hO : Bytes O) (s : Nat) : Bytes (mixK K O s) := (hO.splice (encK_bytes hK s)).splice (macK_bytes hK s)
set_option maxHeartbeats 2000000 in
theorem sealback_any (K O : List Int) (p : Pk) (cs : List Value) (w : World) (hK : K.length = 96) (hKb : Bytes K) (hO : O.length = 96) (hOb : Bytes O) (hp : PkC (At w) p cs) (hbd : ∀ f ∈ p.fs, Bytes f.data) (hbig : ∀ f ∈ p.fs, f.data.length ≤ maxLen) (hle : p.fs.length ≤ maxLen) :
  Gives tb 5 [.agg (row K).toArray, .agg (row O).toArray, .agg cs.toArray] w (.bool true) := by
 obtain ⟨fv, rfl, hv⟩ := hp
 replace hv : FrsC (Cz (fun _ => True) ⟨w, [], []⟩) fv p.fs := hv.mono fun p x h => ⟨⟨h, by simp⟩, trivial⟩
 obtain ⟨fb, fc, rfl, hfc⟩ := hv.slice
 refine gives_ofk (fn := Try.f5) Try.func5 rfl Try.ntmps5 rfl (fun on => ?_)
 repeat refine s_seqs ?_
 refine s_reg ?_
 refine step_box_agg rfl rfl (fun b3 => ?_)
 refine step_box_agg rfl rfl (fun b4 => ?_)
 refine step_box_agg rfl rfl (fun b5 => ?_)
 refine qa rfl rfl ?_
 refine Vc.step_end (fun a w ok => ?_)
 first | (refine WPs.run ?_ a w ok; clear ok w a) | skip
 repeat refine s_seqs ?_
 refine s_reg ?_
 refine step_gives rfl fun9 rfl (fun w _ _ => sawake_any w) ?_
 refine qa rfl rfl ?_
 refine Vc.step_end (fun a w ok => ?_)
 first | (refine WPs.run ?_ a w ok; clear ok w a) | skip
 repeat refine s_seqs ?_
 refine s_reg ?_
 refine step_pure rfl (pure_load_agg (i := 0) rfl rfl rfl rfl rfl (by show 3 ≤ 3; decide) rfl) ?_
 refine step_gives rfl fun10 rfl (fun w' hh kp => short_any p _ w' ⟨_, rfl, hv.mono (Cz.now kp)⟩ hbig hle) ?_
 refine step_pure rfl (pure_not rfl) ?_
 refine Vc.step_end (fun a w ok => ?_)
 first | (refine WPs.run ?_ a w ok; clear ok w a) | skip
 repeat refine s_seqs ?_
 refine s_cond rfl (fun h => ?_) (fun h => ?_)
 ·repeat refine s_seqs ?_
  refine s_reg ?_
  refine qm rfl rfl ?_
  refine qa rfl rfl ?_
  refine Vc.step_end (fun a w ok => ?_)
  first | (refine WPs.run ?_ a w ok; clear ok w a) | skip
  exact s_ret fun a w ok => ends_k on (.inr rfl) ok (res_tmp Try.results5 rfl)
 rw [Bool.not_eq_false'] at h
 have hfi := few_in (shB_few h)
 clear h
 refine s_skip fun a w ok => WPs.run ?_ a w ok
 clear ok w a
 repeat refine s_seqs ?_
 refine s_reg ?_
 refine step_pure rfl (pure_load_agg (i := 2) rfl rfl rfl rfl rfl (by show 0 + 96 ≤ (row K).length; rw [row_len, hK]; decide) (ints_whole _ _ 96 hK)) ?_
 refine step_pure rfl (pure_load_agg (i := 0) rfl rfl rfl rfl rfl (by show 3 ≤ 3; decide) rfl) ?_
 refine step_givesP on.sc rfl fun12 rfl (fun w' Z' hh kp hZ hC => seal_P K p _ w' hZ hK hKb ⟨_, rfl, hv.mono (Cz.now kp)⟩ hbig) ?_
 rintro u E1 g ⟨v1, rfl, hw1⟩
 replace on := on.next g
 replace hv := hv.mono g.cz
 clear g
 obtain ⟨base1, cap1, rfl, hcap1⟩ := slc_str hw1
 refine qm rfl rfl ?_
 refine qx rfl rfl rfl ?_
 refine qx rfl rfl rfl ?_
 refine qa rfl rfl ?_
 refine qa rfl rfl ?_
 refine Vc.step_end (fun a w ok => ?_)
 first | (refine WPs.run ?_ a w ok; clear ok w a) | skip
 repeat refine s_seqs ?_
 refine s_reg ?_
 refine qm rfl rfl ?_
 refine step_pure rfl (pure_neq rfl rfl) ?_
 refine Vc.step_end (fun a w ok => ?_)
 first | (refine WPs.run ?_ a w ok; clear ok w a) | skip
 cases hok : pOk p with
 | false =>
  rw [pE_no hok]
  have hl0 : (sealB K p).length = 0 := by rw [sealB_no K hok]; rfl
  rw [hl0]
  repeat refine s_seqs ?_
  refine s_cond_yes rfl rfl ?_
  repeat refine s_seqs ?_
  refine s_reg ?_
  refine qm rfl rfl ?_
  refine qm rfl rfl ?_
  refine qm rfl rfl ?_
  refine step_pure rfl (pure_len_slice rfl rfl rfl) ?_
  refine step_pure rfl (pure_eql rfl rfl) ?_
  refine step_pure rfl (pure_pick_yes rfl rfl) ?_
  refine qm rfl rfl ?_
  refine qm rfl rfl ?_
  refine step_pure rfl (pure_eql rfl rfl) ?_
  refine step_pure rfl (pure_pick_yes rfl rfl) ?_
  refine qa rfl rfl ?_
  refine Vc.step_end (fun a w ok => ?_)
  first | (refine WPs.run ?_ a w ok; clear ok w a) | skip
  exact s_ret fun a w ok => ends_k on (.inr rfl) ok (res_tmp Try.results5 rfl)
 | true =>
 rw [pE_yes hok]
 repeat refine s_seqs ?_
 refine s_cond_no rfl rfl ?_
 refine s_skip fun a w ok => WPs.run ?_ a w ok
 clear ok w a
 have hpo := pOk_in hok
 have hside := hOk_in hpo.1
 obtain ⟨s, hs, hs2⟩ : ∃ s : Nat, p.side = s ∧ s < 2 := ⟨p.side.toNat, by omega, by omega⟩
 have hMl := mixK_len hK hO hs2
 have hM1 := mixK1_len hK hO hs2
 have hMb := mixK_bytes hKb hOb s
 have hso := seal_open K (mixK K O s) hok hbd (by rw [hs, Int.toNat_natCast]; exact mixK_enc hK hO hs2) (by rw [hs, Int.toNat_natCast]; exact mixK_mac hK hO hs2)
 obtain ⟨hx1, hg1⟩ := opX_ok hso
 have hx0 := seal_other K K (1 - p.side) hok (by omega)
 have hsb := sealB_bytes (K := K) (p := p)
 have hsl := sealB_le K p
 have hps : psB p p = true := (psB_iff hbd hbd).2 rfl
 rw [hs] at hx1 hg1 hx0
 have hel := encK_len hK hs2
 have hml := macK_len hK hs2
 have hdr1 : ((row K).drop (16 * s)).take 16 = row (encK K s) := ints_sub .u8 K _ 16
 have hdr2 : ((row K).drop (32 + 32 * s)).take 32 = row (macK K s) := ints_sub .u8 K _ 32
 have hsp1 : splice (row O) (16 * s) (row (encK K s)) = row (splice O (16 * s) (encK K s)) := ints_splice ..
 have hsp2 : splice (row (splice O (16 * s) (encK K s))) (32 + 32 * s) (row (macK K s)) = row (mixK K O s) := ints_splice ..
 clear hso
 generalize splice O (16 * s) (encK K s) = M1 at *
 generalize mixK K O s = M at *
 generalize encK K s = EK at *
 generalize macK K s = MK at *
 generalize sealB K p = B at *
 repeat refine s_seqs ?_
 refine s_reg ?_
 refine step_pure rfl (pure_fieldAddr rfl rfl rfl rfl rfl (by decide)) ?_
 first | refine step_pure rfl (pure_load (i := 0) rfl rfl rfl rfl rfl rfl) ?_ | refine step_pure rfl (pure_load (i := 1) rfl rfl rfl rfl rfl rfl) ?_ | refine step_pure rfl (pure_load (i := 2) rfl rfl rfl rfl rfl rfl) ?_ | refine step_pure rfl (pure_load (i := 3) rfl rfl rfl rfl rfl rfl) ?_ | refine step_pure rfl (pure_load (i := 4) rfl rfl rfl rfl rfl rfl) ?_ | refine step_pure rfl (pure_load (i := 5) rfl rfl rfl rfl rfl rfl) ?_
 refine qa rfl rfl ?_
 refine Vc.step_end (fun a w ok => ?_)
 first | (refine WPs.run ?_ a w ok; clear ok w a) | skip
 rw [hs]
 repeat refine s_seqs ?_
 refine s_meet [(3, .pointer (some ⟨b3, 0, none⟩)), (4, .pointer (some ⟨b4, 0, none⟩)), (5, .pointer (some ⟨b5, 0, none⟩)), (7, .bool true), (8, .slice base1 B.length cap1), (10, .int .i64 s), (47, .bool false)] [⟨b5, [.int .i64 s, .int .i64 p.num, .slice fb p.fs.length fc], 25⟩, ⟨b4, row O, 33⟩, ⟨b3, row K, 33⟩] ?_ (fun a9 w9 ok9 => WPs.run ?_ a9 w9 ok9)
 ·have h01 : s = 0 ∨ s = 1 := by omega
  clear hx1 hg1 hx0 hsp1 hsp2 hdr1 hdr2
  repeat refine c_seq ?_
  refine c_region ?_
  refine qm rfl rfl ?_
  refine step_pure rfl (pure_neq rfl rfl) ?_
  refine qm rfl rfl ?_
  refine step_split (t := 44) rfl (fun h44 => ?_) (fun h44 => ?_)
  ·refine qm rfl rfl ?_
   refine step_pure rfl (pure_neq rfl rfl) ?_
   refine step_pure rfl (pure_pick_yes rfl rfl) ?_
   refine step_nil ?_
   refine less_of ⟨rfl, rfl, rfl, rfl, rfl, rfl, ?_, trivial⟩ rfl
   refine congrArg some (congrArg Value.bool ?_)
   clear hw1 hv
   rcases h01 with rfl | rfl <;> simp_all
  ·refine qp rfl rfl rfl ?_
   refine qp rfl rfl rfl ?_
   refine step_pure rfl (pure_pick_no rfl rfl) ?_
   refine step_nil ?_
   refine less_of ⟨rfl, rfl, rfl, rfl, rfl, rfl, ?_, trivial⟩ rfl
   refine congrArg some (congrArg Value.bool ?_)
   clear hw1 hv
   rcases h01 with rfl | rfl <;> simp_all
 repeat refine s_seqs ?_
 refine s_cond_no rfl rfl ?_
 refine s_skip fun a w ok => WPs.run ?_ a w ok
 clear ok w a
 repeat refine s_seqs ?_
 refine s_reg ?_
 refine step_pure rfl (pure_load_agg (i := 1) rfl rfl rfl rfl rfl (by show 0 + 96 ≤ (row O).length; rw [row_len, hO]; decide) (ints_whole _ _ 96 hO)) ?_
 refine step_alloc rfl zero33 (fun b11 => ?_)
 refine step_store_agg 0 rfl rfl rfl (row_one _) rfl (by rw [row_len]; exact hO) rfl rfl (Nat.le_of_ble_eq_true rfl) (splice_all (by rw [row_len, hO]; rfl)) ?_
 refine Vc.step_end (fun a w ok => ?_)
 first | (refine WPs.run ?_ a w ok; clear ok w a) | skip
 repeat refine s_seqs ?_
 refine s_reg ?_
 refine qm rfl rfl ?_
 refine qm rfl rfl ?_
 refine step_pure rfl (pure_fieldAddr rfl rfl rfl rfl rfl (by decide)) ?_
 refine step_pure rfl (pure_ix (off' := 16 * s) rfl rfl rfl rfl rfl (by omega) (by omega) (by show 0 + 0 + (s : Int).toNat * 16 = _; omega)) ?_
 refine step_pure rfl (pure_load_agg (i := 3) rfl rfl rfl rfl rfl (by show 16 * s + 16 ≤ (row K).length; rw [row_len]; omega) hdr1) ?_
 refine step_pure rfl (pure_fieldAddr rfl rfl rfl rfl rfl (by decide)) ?_
 refine step_pure rfl (pure_ix (off' := 16 * s) rfl rfl rfl rfl rfl (by omega) (by omega) (by show 0 + 0 + (s : Int).toNat * 16 = _; omega)) ?_
 refine step_store_agg 0 rfl rfl rfl (row_one _) rfl (by rw [row_len]; exact hel) rfl rfl (by show 16 * s + 16 ≤ (row O).length; rw [row_len]; omega) hsp1 ?_
 refine Vc.step_end (fun a w ok => ?_)
 first | (refine WPs.run ?_ a w ok; clear ok w a) | skip
 repeat refine s_seqs ?_
 refine s_reg ?_
 refine qm rfl rfl ?_
 refine qm rfl rfl ?_
 refine step_pure rfl (pure_fieldAddr rfl rfl rfl rfl rfl (by decide)) ?_
 refine step_pure rfl (pure_ix (off' := 32 + 32 * s) rfl rfl rfl rfl rfl (by omega) (by omega) (by show 0 + 32 + (s : Int).toNat * 32 = _; omega)) ?_
 refine step_pure rfl (pure_load_agg (i := 3) rfl rfl rfl rfl rfl (by show 32 + 32 * s + 32 ≤ (row K).length; rw [row_len]; omega) hdr2) ?_
 refine step_pure rfl (pure_fieldAddr rfl rfl rfl rfl rfl (by decide)) ?_
 refine step_pure rfl (pure_ix (off' := 32 + 32 * s) rfl rfl rfl rfl rfl (by omega) (by omega) (by show 0 + 32 + (s : Int).toNat * 32 = _; omega)) ?_
 refine step_store_agg 0 rfl rfl rfl (row_one _) rfl (by rw [row_len]; exact hml) rfl rfl (by show 32 + 32 * s + 32 ≤ (row M1).length; rw [row_len]; omega) hsp2 ?_
 refine Vc.step_end (fun a w ok => ?_)
 first | (refine WPs.run ?_ a w ok; clear ok w a) | skip
 repeat refine s_seqs ?_
 refine s_reg ?_
 refine step_pure rfl (pure_load_agg (i := 0) rfl rfl rfl rfl rfl (by show 0 + 96 ≤ (row M).length; rw [row_len, hMl]; decide) (ints_whole _ _ 96 hMl)) ?_
 refine qm rfl rfl ?_
 refine qm rfl rfl ?_
 refine step_givesP on.sc rfl fun17 rfl (fun w' Z' hh kp hZ hC => open_P M s B _ w' hZ hMl hMb (hw1.mono (Cz.now kp)) hsb (by omega)) ?_
 rintro u E2 g ⟨v2, rfl, hr2⟩
 replace on := on.next g
 replace hv := hv.mono g.cz
 replace hw1 := hw1.mono g.cz
 clear g
 rw [hg1] at hr2 ⊢
 rw [hx1]
 obtain ⟨fb2, fc2, rfl, -⟩ := hr2.slice
 refine qm rfl rfl ?_
 refine qx rfl rfl rfl ?_
 refine qx rfl rfl rfl ?_
 refine step_alloc rfl zero25 (fun b12 => ?_)
 first | refine step_store_agg 0 rfl rfl rfl (by decide) rfl rfl rfl rfl (by decide) rfl ?_ | refine step_store_agg 1 rfl rfl rfl (by decide) rfl rfl rfl rfl (by decide) rfl ?_ | refine step_store_agg 2 rfl rfl rfl (by decide) rfl rfl rfl rfl (by decide) rfl ?_ | refine step_store_agg 3 rfl rfl rfl (by decide) rfl rfl rfl rfl (by decide) rfl ?_ | refine step_store_agg 4 rfl rfl rfl (by decide) rfl rfl rfl rfl (by decide) rfl ?_ | refine step_store_agg 5 rfl rfl rfl (by decide) rfl rfl rfl rfl (by decide) rfl ?_ | refine step_store_agg 0 rfl rfl rfl (of_one rfl) rfl rfl rfl rfl (Nat.le_of_ble_eq_true rfl) rfl ?_ | refine step_store_agg 1 rfl rfl rfl (of_one rfl) rfl rfl rfl rfl (Nat.le_of_ble_eq_true rfl) rfl ?_ | refine step_store_agg 2 rfl rfl rfl (of_one rfl) rfl rfl rfl rfl (Nat.le_of_ble_eq_true rfl) rfl ?_ | refine step_store_agg 3 rfl rfl rfl (of_one rfl) rfl rfl rfl rfl (Nat.le_of_ble_eq_true rfl) rfl ?_ | refine step_store_agg 4 rfl rfl rfl (of_one rfl) rfl rfl rfl rfl (Nat.le_of_ble_eq_true rfl) rfl ?_ | refine step_store_agg 5 rfl rfl rfl (of_one rfl) rfl rfl rfl rfl (Nat.le_of_ble_eq_true rfl) rfl ?_
 refine qa rfl rfl ?_
 refine Vc.step_end (fun a w ok => ?_)
 first | (refine WPs.run ?_ a w ok; clear ok w a) | skip
 repeat refine s_seqs ?_
 refine s_reg ?_
 refine step_pure rfl (pure_load_agg (i := 4) rfl rfl rfl rfl rfl (by show 0 + 96 ≤ (row K).length; rw [row_len, hK]; decide) (ints_whole _ _ 96 hK)) ?_
 refine qm rfl rfl ?_
 first | refine step_pure rfl (pure_sub64 rfl rfl (by omega) (by omega)) ?_ | refine step_pure rfl (pure_sub rfl rfl) ?_
 refine qm rfl rfl ?_
 refine step_givesP on.sc rfl fun17 rfl (fun w' Z' hh kp hZ hC => open_P K (1 - s) B _ w' hZ hK hKb (hw1.mono (Cz.now kp)) hsb (by omega)) ?_
 rintro u E3 g ⟨v3, rfl, hr3⟩
 replace on := on.next g
 replace hv := hv.mono g.cz
 replace hr2 := hr2.mono g.cz
 clear g
 rw [hx0]
 obtain ⟨fb3, fc3, rfl, -⟩ := hr3.slice
 refine qm rfl rfl ?_
 refine qx rfl rfl rfl ?_
 refine qx rfl rfl rfl ?_
 refine step_alloc rfl zero25 (fun b14 => ?_)
 first | refine step_store_agg 0 rfl rfl rfl (by decide) rfl rfl rfl rfl (by decide) rfl ?_ | refine step_store_agg 1 rfl rfl rfl (by decide) rfl rfl rfl rfl (by decide) rfl ?_ | refine step_store_agg 2 rfl rfl rfl (by decide) rfl rfl rfl rfl (by decide) rfl ?_ | refine step_store_agg 3 rfl rfl rfl (by decide) rfl rfl rfl rfl (by decide) rfl ?_ | refine step_store_agg 4 rfl rfl rfl (by decide) rfl rfl rfl rfl (by decide) rfl ?_ | refine step_store_agg 5 rfl rfl rfl (by decide) rfl rfl rfl rfl (by decide) rfl ?_ | refine step_store_agg 0 rfl rfl rfl (of_one rfl) rfl rfl rfl rfl (Nat.le_of_ble_eq_true rfl) rfl ?_ | refine step_store_agg 1 rfl rfl rfl (of_one rfl) rfl rfl rfl rfl (Nat.le_of_ble_eq_true rfl) rfl ?_ | refine step_store_agg 2 rfl rfl rfl (of_one rfl) rfl rfl rfl rfl (Nat.le_of_ble_eq_true rfl) rfl ?_ | refine step_store_agg 3 rfl rfl rfl (of_one rfl) rfl rfl rfl rfl (Nat.le_of_ble_eq_true rfl) rfl ?_ | refine step_store_agg 4 rfl rfl rfl (of_one rfl) rfl rfl rfl rfl (Nat.le_of_ble_eq_true rfl) rfl ?_ | refine step_store_agg 5 rfl rfl rfl (of_one rfl) rfl rfl rfl rfl (Nat.le_of_ble_eq_true rfl) rfl ?_
 refine qa rfl rfl ?_
 refine Vc.step_end (fun a w ok => ?_)
 first | (refine WPs.run ?_ a w ok; clear ok w a) | skip
 repeat refine s_seqs ?_
 refine s_reg ?_
 refine step_pure rfl (pure_load_agg (i := 3) rfl rfl rfl rfl rfl (by show 3 ≤ 3; decide) rfl) ?_
 refine step_pure rfl (pure_load_agg (i := 1) rfl rfl rfl rfl rfl (by show 3 ≤ 3; decide) rfl) ?_
 refine step_gives rfl fun19 rfl (fun w' hh kp => psame_any p p [.int .i64 s, .int .i64 p.num, .slice fb p.fs.length fc] _ w' ⟨.slice fb p.fs.length fc, by rw [hs], hv.mono (Cz.now kp)⟩ ⟨_, rfl, hr2.mono (Cz.now kp)⟩ (fun f hf => by have := hfi.2 f hf; omega) (by omega)) ?_
 rw [hps]
 refine qa rfl rfl ?_
 refine Vc.step_end (fun a w ok => ?_)
 first | (refine WPs.run ?_ a w ok; clear ok w a) | skip
 repeat refine s_seqs ?_
 refine s_reg ?_
 refine qm rfl rfl ?_
 refine qm rfl rfl ?_
 refine qm rfl rfl ?_
 refine step_pure rfl (pure_pick_yes rfl rfl) ?_
 refine qm rfl rfl ?_
 refine qm rfl rfl ?_
 refine step_pure rfl (pure_eql rfl rfl) ?_
 refine step_pure rfl (pure_pick_yes rfl rfl) ?_
 refine qm rfl rfl ?_
 refine qm rfl rfl ?_
 refine step_pure rfl (pure_eql rfl rfl) ?_
 refine step_pure rfl (pure_pick_yes rfl rfl) ?_
 refine qa rfl rfl ?_
 refine Vc.step_end (fun a w ok => ?_)
 first | (refine WPs.run ?_ a w ok; clear ok w a) | skip
 exact s_ret fun a w ok => ends_k on (.inr rfl) ok (res_tmp Try.results5 rfl)
end Go.Proofs.Ythieegnhjoehbaa
