/- The document's Erase, Chars: walked. -/
import Derived.Test.YtbcpgdjhomoghaaG26
namespace Go.Proofs.Ytbcpgdjhomoghaa
open Go.RowKit Go.Vc
set_option linter.unusedVariables false
theorem eraseL_get (l : List Ce) (f t : Int) (i : Nat) (h : i < l.length) : (eraseL l f t).getD i blC = if f ≤ i ∧ (i : Int) < t then blC else l.getD i blC := by
 have h1 := clampI_in f (lo := 0) (hi := l.length) (by omega)
 have h2 := clampI_in t (lo := 0) (hi := l.length) (by omega)
 unfold eraseL
 rw [splice_getD _ _ _ _ (by rw [List.length_replicate]; omega), List.length_replicate, getD_replicate]
 by_cases hc : f ≤ i ∧ (i : Int) < t
 ·rw [if_pos hc, if_pos (by unfold clampI at *; omega)]
 ·rw [if_neg hc, if_neg (by unfold clampI at *; omega)]
set_option maxHeartbeats 2000000 in
theorem rerase_P (s : Scr) (cs : List Value) (f t : Int) (w : World) {Z : Nat → Prop} (hZ : ∀ j, w.heap.size ≤ j → Z j) (hs : ScV (At w) s cs) (h1 : s.cells.length ≤ maxLen) (h2 : s.main.length ≤ maxLen) :
  GivesP tb 22 [.agg cs.toArray, .int .i64 f, .int .i64 t] w Z (ScR (doF (eraseF f t) s)) := by
 have hmx : 4096 ≤ maxLen := by decide
 replace hs := scv_cz hs
 obtain ⟨a1, l1, c1, a2, l2, c2, rfl⟩ := scv_agg hs
 refine givesP_of (fn := Try.f22) Try.func22 rfl Try.ntmps22 rfl hZ scR_mono (fun on => ?_)
 have hdo : doF (eraseF f t) s = { doI s with cells := eraseL (doI s).cells f t } := by
  unfold doF doI
  cases hok : scOk s with
  | false =>
   show zScr = { zScr with cells := eraseL [] f t }
   rw [show eraseL [] f t = [] from List.eq_nil_of_length_eq_zero (eraseL_len [] f t)]
   rfl
  | true => rfl
 have hdl : (doI s).cells.length ≤ 4096 := by
  unfold doI
  split
  ·rename_i hok
   exact (ok_lens' ((scOk_iff s).1 hok)).1
  ·exact Nat.zero_le _
 rw [hdo]
 clear hdo
 repeat refine s_seqs ?_
 refine s_reg ?_
 refine step_box_agg rfl rfl (fun b3 => ?_)
 refine step_alloc rfl zero27 (fun b6 => ?_)
 refine Vc.step_end (fun a w ok => ?_)
 first | (refine WPs.run ?_ a w ok; clear ok w a) | skip
 repeat refine s_seqs ?_
 refine s_reg ?_
 first | refine step_pure rfl (pure_load_agg (i := 0) rfl rfl rfl rfl rfl (by first | decide | exact Nat.le_of_ble_eq_true rfl) rfl) ?_ | refine step_pure rfl (pure_load_agg (i := 1) rfl rfl rfl rfl rfl (by first | decide | exact Nat.le_of_ble_eq_true rfl) rfl) ?_ | refine step_pure rfl (pure_load_agg (i := 2) rfl rfl rfl rfl rfl (by first | decide | exact Nat.le_of_ble_eq_true rfl) rfl) ?_ | refine step_pure rfl (pure_load_agg (i := 3) rfl rfl rfl rfl rfl (by first | decide | exact Nat.le_of_ble_eq_true rfl) rfl) ?_ | refine step_pure rfl (pure_load_agg (i := 4) rfl rfl rfl rfl rfl (by first | decide | exact Nat.le_of_ble_eq_true rfl) rfl) ?_ | refine step_pure rfl (pure_load_agg (i := 5) rfl rfl rfl rfl rfl (by first | decide | exact Nat.le_of_ble_eq_true rfl) rfl) ?_
 refine step_wm [] _ on.sc rfl fun37 rfl (List.Perm.refl _) (fun w' Z' hh kp h0 hZ hZ0 hC => rcopy_W s _ w' hZ (hs.mono (Cz.now kp)) h1 h2) ?_
 rintro u m1 E3 g ⟨base, cap, a7, l7, c7, e, rfl, rfl, hse, hm7⟩
 replace on := on.next g
 clear g hs
 generalize doI s = d at *
 refine step_alloc rfl zero27 (fun b7 => ?_)
 refine step_store_agg 0 rfl rfl rfl (scC_one d base a7 d.cells.length cap l7 c7) rfl rfl rfl rfl (Nat.le_of_ble_eq_true rfl) (show _ = scC d (.slice base d.cells.length cap) (.slice a7 l7 c7) from rfl) ?_
 refine Vc.step_end (fun a w ok => ?_)
 first | (refine WPs.run ?_ a w ok; clear ok w a) | skip
 have hTl := eraseL_len d.cells f t
 have hTg := eraseL_get d.cells f t
 obtain ⟨o, ho⟩ : ∃ o : Nat, max f 0 = o := ⟨(max f 0).toNat, by omega⟩
 have hTo : ∀ i, i < d.cells.length → ¬ (o ≤ i ∧ i < (max f t).toNat) → (eraseL d.cells f t).getD i blC = d.cells.getD i blC := fun i hi hn => by
  rw [hTg i hi, if_neg (by omega)]
 have hTb : ∀ i, i < d.cells.length → o ≤ i → (i : Int) < t → (eraseL d.cells f t).getD i blC = blC := fun i hi h3 h4 => by
  rw [hTg i hi, if_pos (by omega)]
 generalize eraseL d.cells f t = T at *
 repeat refine s_seqs ?_
 refine s_reg ?_
 refine qm rfl rfl ?_
 refine step_as rfl (pure_max rfl rfl) (show _ = Value.int .i64 (o : Int) from congrArg (Value.int .i64) ho) ?_
 refine qa rfl rfl ?_
 refine Vc.step_end (fun a w ok => ?_)
 first | (refine WPs.run ?_ a w ok; clear ok w a) | skip
 rcases Nat.eq_zero_or_pos d.cells.length with h0 | hpos
 ·have hd0 : d.cells = [] := List.eq_nil_of_length_eq_zero h0
  have hT0 : T = [] := List.eq_nil_of_length_eq_zero (by omega)
  repeat refine s_seqs ?_
  refine s_block ?_
  repeat refine s_seqs ?_
  refine s_loopP (α := Unit) (fun _ => [(2, .int .i64 t), (6, .pointer (some ⟨b6, 0, none⟩)), (7, .pointer (some ⟨b7, 0, none⟩)), (8, .int .i64 o)]) (fun _ => [⟨b7, scC d (.slice base d.cells.length cap) (.slice a7 l7 c7), tSc⟩, e, ⟨b6, scC zScr (.slice none 0 0) (.slice none 0 0), tSc⟩]) (fun _ _ => True) (fun _ => 0) () trivial (less_sub ⟨rfl, rfl, rfl, rfl, trivial⟩ (by repeat (first | exact List.Sublist.refl _ | exact List.nil_sublist _ | apply List.Sublist.cons_cons | apply List.Sublist.cons))) ?_
  intro _ E4 _ g
  replace on := on.next g
  replace hm7 := hm7.mono g.cz
  clear g
  repeat refine s_seqs ?_
  refine s_meet [(6, .pointer (some ⟨b6, 0, none⟩)), (7, .pointer (some ⟨b7, 0, none⟩)), (22, .bool false)] [⟨b7, scC d (.slice base d.cells.length cap) (.slice a7 l7 c7), tSc⟩, e, ⟨b6, scC zScr (.slice none 0 0) (.slice none 0 0), tSc⟩] ?_ (fun a9 w9 ok9 => WPs.run ?_ a9 w9 ok9)
  ·repeat refine c_seq ?_
   refine c_region ?_
   refine qm rfl rfl ?_
   refine qm rfl rfl ?_
   refine step_pure rfl (pure_lss rfl rfl) ?_
   refine qm rfl rfl ?_
   refine step_split (t := 16) rfl (fun h16 => ?_) (fun h16 => ?_)
   ·refine qm rfl rfl ?_
    refine step_pure rfl (pure_fieldAddr rfl rfl rfl rfl rfl (by decide)) ?_
    first | refine step_pure rfl (pure_load (i := 0) rfl rfl rfl rfl rfl rfl) ?_ | refine step_pure rfl (pure_load (i := 1) rfl rfl rfl rfl rfl rfl) ?_ | refine step_pure rfl (pure_load (i := 2) rfl rfl rfl rfl rfl rfl) ?_ | refine step_pure rfl (pure_load (i := 3) rfl rfl rfl rfl rfl rfl) ?_ | refine step_pure rfl (pure_load (i := 4) rfl rfl rfl rfl rfl rfl) ?_ | refine step_pure rfl (pure_load (i := 5) rfl rfl rfl rfl rfl rfl) ?_
    refine step_pure rfl (pure_len_slice rfl rfl rfl) ?_
    refine step_as rfl (pure_lss rfl rfl) (show _ = Value.bool false from congrArg Value.bool (decide_eq_false (by omega))) ?_
    refine step_pure rfl (pure_pick_yes rfl rfl) ?_
    refine step_nil ?_
    exact less_of ⟨rfl, rfl, rfl, trivial⟩ rfl
   ·refine qp rfl rfl rfl ?_
    refine qp rfl rfl rfl ?_
    refine qp rfl rfl rfl ?_
    refine qp rfl rfl rfl ?_
    refine qp rfl rfl rfl ?_
    refine step_pure rfl (pure_pick_no rfl rfl) ?_
    refine step_nil ?_
    exact less_of ⟨rfl, rfl, rfl, trivial⟩ rfl
  repeat refine s_seqs ?_
  refine s_cond_no rfl rfl ?_
  refine s_exit fun a w ok => WPs.run ?_ a w ok
  clear ok w a
  rw [show d.cells = T by rw [hd0, hT0]] at hse
  repeat refine s_seqs ?_
  refine s_reg ?_
  first | refine step_pure rfl (pure_load_agg (i := 0) rfl rfl rfl rfl rfl (by first | decide | exact Nat.le_of_ble_eq_true rfl) rfl) ?_ | refine step_pure rfl (pure_load_agg (i := 1) rfl rfl rfl rfl rfl (by first | decide | exact Nat.le_of_ble_eq_true rfl) rfl) ?_ | refine step_pure rfl (pure_load_agg (i := 2) rfl rfl rfl rfl rfl (by first | decide | exact Nat.le_of_ble_eq_true rfl) rfl) ?_ | refine step_pure rfl (pure_load_agg (i := 3) rfl rfl rfl rfl rfl (by first | decide | exact Nat.le_of_ble_eq_true rfl) rfl) ?_ | refine step_pure rfl (pure_load_agg (i := 4) rfl rfl rfl rfl rfl (by first | decide | exact Nat.le_of_ble_eq_true rfl) rfl) ?_ | refine step_pure rfl (pure_load_agg (i := 5) rfl rfl rfl rfl rfl (by first | decide | exact Nat.le_of_ble_eq_true rfl) rfl) ?_
  refine step_store_agg 2 rfl rfl rfl (scC_one d base a7 d.cells.length cap l7 c7) rfl rfl rfl rfl (Nat.le_of_ble_eq_true rfl) (show _ = scC { d with cells := T } (.slice base d.cells.length cap) (.slice a7 l7 c7) from rfl) ?_
  refine Vc.step_end (fun a w ok => ?_)
  first | (refine WPs.run ?_ a w ok; clear ok w a) | skip
  refine s_let 1 rfl (fun E6 g hcc => ?_)
  have hsl := slis_cz hse (hcc _ on.sc)
  rw [hTl] at hsl
  exact s_ret fun a w ok => ends_givesP (on.next g) (.inr rfl) ok (res_cell_agg (i := 1) Try.results22 rfl rfl rfl rfl rfl (Nat.le_of_ble_eq_true rfl) rfl) scR_mono ⟨_, rfl, _, _, rfl, by rw [hTl]; exact hsl, hm7.mono g.cz⟩
 ·obtain ⟨bc, tl, rfl, rfl, htl, hcap⟩ := slis_ce hse hpos
  clear hse
  repeat refine s_seqs ?_
  refine s_block ?_
  repeat refine s_seqs ?_
  refine s_loopP (α := Nat) (fun j => [(2, .int .i64 t), (6, .pointer (some ⟨b6, 0, none⟩)), (7, .pointer (some ⟨b7, 0, none⟩)), (8, .int .i64 j)]) (fun j => [⟨b7, scC d (.slice (some ⟨bc, 0, none⟩) d.cells.length cap) (.slice a7 l7 c7), tSc⟩, ⟨bc, ceR (mixL d.cells T o j) ++ tl, tC⟩, ⟨b6, scC zScr (.slice none 0 0) (.slice none 0 0), tSc⟩])
   (fun j _ => o ≤ j ∧ (j = o ∨ (j : Int) ≤ t) ∧ (j = o ∨ j ≤ d.cells.length)) (fun j => d.cells.length - j) o ⟨Nat.le_refl _, .inl rfl, .inl rfl⟩ (less_sub ⟨rfl, rfl, rfl, rfl, trivial⟩ (by rw [mixL_start]; repeat (first | exact List.Sublist.refl _ | exact List.nil_sublist _ | apply List.Sublist.cons_cons | apply List.Sublist.cons))) ?_
  rintro j E4 ⟨hj1, hj2, hj3⟩ g
  replace on := on.next g
  replace hm7 := hm7.mono g.cz
  clear g
  repeat refine s_seqs ?_
  refine s_meet [(2, .int .i64 t), (6, .pointer (some ⟨b6, 0, none⟩)), (7, .pointer (some ⟨b7, 0, none⟩)), (8, .int .i64 j), (22, .bool (decide ((j : Int) < t) && decide ((j : Int) < d.cells.length)))] [⟨b7, scC d (.slice (some ⟨bc, 0, none⟩) d.cells.length cap) (.slice a7 l7 c7), tSc⟩, ⟨bc, ceR (mixL d.cells T o j) ++ tl, tC⟩, ⟨b6, scC zScr (.slice none 0 0) (.slice none 0 0), tSc⟩] ?_ (fun a9 w9 ok9 => WPs.run ?_ a9 w9 ok9)
  ·clear hTg hTo hTb
   generalize mixL d.cells T o j = mx
   repeat refine c_seq ?_
   refine c_region ?_
   refine qm rfl rfl ?_
   refine qm rfl rfl ?_
   refine step_pure rfl (pure_lss rfl rfl) ?_
   refine qm rfl rfl ?_
   refine step_split (t := 16) rfl (fun h16 => ?_) (fun h16 => ?_)
   ·refine qm rfl rfl ?_
    refine step_pure rfl (pure_fieldAddr rfl rfl rfl rfl rfl (by decide)) ?_
    first | refine step_pure rfl (pure_load (i := 0) rfl rfl rfl rfl rfl rfl) ?_ | refine step_pure rfl (pure_load (i := 1) rfl rfl rfl rfl rfl rfl) ?_ | refine step_pure rfl (pure_load (i := 2) rfl rfl rfl rfl rfl rfl) ?_ | refine step_pure rfl (pure_load (i := 3) rfl rfl rfl rfl rfl rfl) ?_ | refine step_pure rfl (pure_load (i := 4) rfl rfl rfl rfl rfl rfl) ?_ | refine step_pure rfl (pure_load (i := 5) rfl rfl rfl rfl rfl rfl) ?_
    refine step_pure rfl (pure_len_slice rfl rfl rfl) ?_
    refine step_pure rfl (pure_lss rfl rfl) ?_
    refine step_pure rfl (pure_pick_yes rfl rfl) ?_
    refine step_nil ?_
    refine less_of ⟨rfl, rfl, rfl, rfl, ?_, trivial⟩ rfl
    refine congrArg some (congrArg Value.bool ?_)
    simp_all
    try (intro h9; omega)
   ·refine qp rfl rfl rfl ?_
    refine qp rfl rfl rfl ?_
    refine qp rfl rfl rfl ?_
    refine qp rfl rfl rfl ?_
    refine qp rfl rfl rfl ?_
    refine step_pure rfl (pure_pick_no rfl rfl) ?_
    refine step_nil ?_
    refine less_of ⟨rfl, rfl, rfl, rfl, ?_, trivial⟩ rfl
    refine congrArg some (congrArg Value.bool ?_)
    simp_all
    try (intro h9; omega)
  repeat refine s_seqs ?_
  refine s_cond rfl (fun h => ?_) (fun h => ?_)
  ·rw [Bool.and_eq_true, decide_eq_true_eq, decide_eq_true_eq] at h
   obtain ⟨hjt, hjl⟩ := h
   have hjl : j < d.cells.length := by omega
   have htc := hTb j hjl hj1 hjt
   have hmxs := mixL_set (l := d.cells) (T := T) (o := o) (j := j) hj1 hjl
   rw [htc] at hmxs
   have hmxl := mixL_len d.cells T o j
   have hcl : (ceR (mixL d.cells T o j) ++ tl).length = d.cells.length * 2 + tl.length := by rw [List.length_append, ceR_len, hmxl]
   have hpl : Plc (mixL d.cells T o j) (0 + j * 2) j 1 := ⟨fun _ => by omega, by omega, by omega⟩
   have hsp := plc_wr (x := [blC]) (tl := tl) hpl rfl
   rw [show splice (mixL d.cells T o j) j [blC] = mixL d.cells T o (j + 1) from (splice_one (by omega)).trans hmxs] at hsp
   refine s_skip fun a w ok => WPs.run ?_ a w ok
   clear ok w a
   repeat refine s_seqs ?_
   refine s_block ?_
   repeat refine s_seqs ?_
   refine s_reg ?_
   refine step_pure rfl (pure_fieldAddr rfl rfl rfl rfl rfl (by decide)) ?_
   first | refine step_pure rfl (pure_load (i := 0) rfl rfl rfl rfl rfl rfl) ?_ | refine step_pure rfl (pure_load (i := 1) rfl rfl rfl rfl rfl rfl) ?_ | refine step_pure rfl (pure_load (i := 2) rfl rfl rfl rfl rfl rfl) ?_ | refine step_pure rfl (pure_load (i := 3) rfl rfl rfl rfl rfl rfl) ?_ | refine step_pure rfl (pure_load (i := 4) rfl rfl rfl rfl rfl rfl) ?_ | refine step_pure rfl (pure_load (i := 5) rfl rfl rfl rfl rfl rfl) ?_
   refine qm rfl rfl ?_
   refine step_pure rfl (pure_build_struct (pl := [(0, 1), (1, 1)]) rfl zero33 rfl rfl rfl rfl) ?_
   refine step_pure rfl (pure_ixs rfl rfl rfl rfl rfl (by omega) (by omega) (show 0 + (j : Int).toNat * 2 = 0 + j * 2 by omega)) ?_
   refine step_store_agg 1 rfl rfl rfl (of_one rfl) rfl rfl rfl rfl (by show 0 + j * 2 + 2 ≤ (ceR (mixL d.cells T o j) ++ tl).length; omega) (show _ = ceR (mixL d.cells T o (j + 1)) ++ tl from hsp) ?_
   refine Vc.step_end (fun a w ok => ?_)
   first | (refine WPs.run ?_ a w ok; clear ok w a) | skip
   repeat refine s_seqs ?_
   refine s_reg ?_
   refine qm rfl rfl ?_
   first | refine step_pure rfl (pure_add64 rfl rfl (by omega) (by omega)) ?_ | refine step_pure rfl (pure_add rfl rfl) ?_
   refine qa rfl rfl ?_
   refine Vc.step_end (fun a w ok => ?_)
   refine ⟨j + 1, _, ⟨by omega, .inr (by omega), .inr (by omega)⟩, by omega, Gt.refl _, Less.ok ?_ ok⟩
   exact less_of ⟨rfl, rfl, rfl, rfl, trivial⟩ rfl
  ·have hend : mixL d.cells T o j = T := mixL_end hTl fun i hi hn => hTo i hi (by
    rw [Bool.and_eq_false_iff, decide_eq_false_iff_not, decide_eq_false_iff_not] at h
    omega)
   rw [hend]
   refine s_exit fun a w ok => WPs.run ?_ a w ok
   clear ok w a
   repeat refine s_seqs ?_
   refine s_reg ?_
   first | refine step_pure rfl (pure_load_agg (i := 0) rfl rfl rfl rfl rfl (by first | decide | exact Nat.le_of_ble_eq_true rfl) rfl) ?_ | refine step_pure rfl (pure_load_agg (i := 1) rfl rfl rfl rfl rfl (by first | decide | exact Nat.le_of_ble_eq_true rfl) rfl) ?_ | refine step_pure rfl (pure_load_agg (i := 2) rfl rfl rfl rfl rfl (by first | decide | exact Nat.le_of_ble_eq_true rfl) rfl) ?_ | refine step_pure rfl (pure_load_agg (i := 3) rfl rfl rfl rfl rfl (by first | decide | exact Nat.le_of_ble_eq_true rfl) rfl) ?_ | refine step_pure rfl (pure_load_agg (i := 4) rfl rfl rfl rfl rfl (by first | decide | exact Nat.le_of_ble_eq_true rfl) rfl) ?_ | refine step_pure rfl (pure_load_agg (i := 5) rfl rfl rfl rfl rfl (by first | decide | exact Nat.le_of_ble_eq_true rfl) rfl) ?_
   refine step_store_agg 2 rfl rfl rfl (scC_one d (some ⟨bc, 0, none⟩) a7 d.cells.length cap l7 c7) rfl rfl rfl rfl (Nat.le_of_ble_eq_true rfl) (show _ = scC { d with cells := T } (.slice (some ⟨bc, 0, none⟩) d.cells.length cap) (.slice a7 l7 c7) from rfl) ?_
   refine Vc.step_end (fun a w ok => ?_)
   first | (refine WPs.run ?_ a w ok; clear ok w a) | skip
   refine s_let 1 rfl (fun E6 g hcc => ?_)
   have hsl := slis_cz (sl_cells T tl bc cap (by rw [List.length_append, ceR_len, hTl]; rw [List.length_append, ceR_len] at htl; exact htl)) (hcc _ on.sc)
   rw [hTl] at hsl
   exact s_ret fun a w ok => ends_givesP (on.next g) (.inr rfl) ok (res_cell_agg (i := 1) Try.results22 rfl rfl rfl rfl rfl (Nat.le_of_ble_eq_true rfl) rfl) scR_mono ⟨_, rfl, _, _, rfl, by rw [hTl]; exact hsl, hm7.mono g.cz⟩
end Go.Proofs.Ytbcpgdjhomoghaa
