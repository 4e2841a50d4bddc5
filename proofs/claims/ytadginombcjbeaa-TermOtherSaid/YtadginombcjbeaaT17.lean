/- An act on a screen: walked. -/
import Derived.Test.YtadginombcjbeaaT16
namespace Go.Proofs.Ytadginombcjbeaa
open Go.RowKit Go.Vc
set_option linter.unusedVariables false
/-- What a table answers. -/
def ansV (o : Option FuncId) : Value := match o with
 | some f => .func (.func f) #[] #[]
 | none => .nilFunc
theorem ans_is (q : Option (Nat × Value)) (o : Option FuncId) (h : q.map (·.2) = o.map fun f => Value.func (.func f) #[] #[]) :
  Value.tuple #[hitV q .nilFunc, .bool q.isSome] = .tuple #[ansV o, .bool o.isSome] := by
 cases q with
 | none =>
  cases o with
  | none => rfl
  | some f => cases h
 | some x =>
  cases o with
  | none => cases h
  | some f =>
   obtain ⟨j, v⟩ := x
   have h : v = .func (.func f) #[] #[] := Option.some.inj h
   subst h
   rfl
set_option maxHeartbeats 4000000 in
theorem do_P (s : Scr) (cs : List Value) (ac : Ac) (w : World) {Z : Nat → Prop} (hZ : ∀ j, w.heap.size ≤ j → Z j) (hs : ScV (At w) s cs) (k1 : s.cells.length ≤ maxLen) (k2 : s.main.length ≤ maxLen) (h8 : Ac8 ac) :
  GivesP tb 13 [.agg cs.toArray, .agg (acC ac).toArray] w Z (ScR (doF (tmDo ac) s)) := by
 have hck := fun w' (kp : Keep w w' []) => check_any s cs w' (hs.mono (at_keep kp)) k1 k2
 replace hs := scv_cz hs
 obtain ⟨a7, l7, c7, a8, l8, c8, rfl⟩ := scv_agg hs
 refine givesP_of (fn := Try.f13) Try.func13 rfl Try.ntmps13 rfl hZ scR_mono (fun on => ?_)
 unfold ckE at hck
 cases hok : scOk s with
 | false =>
  rw [doF_no hok]
  rw [hok, if_neg (by decide)] at hck
  repeat refine s_seqs ?_
  refine s_reg ?_
  refine step_box_agg rfl rfl (fun b2 => ?_)
  refine step_box_agg rfl rfl (fun b3 => ?_)
  refine step_alloc rfl zero32 (fun b4 => ?_)
  refine Vc.step_end (fun a w ok => ?_)
  first | (refine WPs.run ?_ a w ok; clear ok w a) | skip
  repeat refine s_seqs ?_
  refine s_reg ?_
  refine step_pure rfl (pure_load_agg (i := 2) rfl rfl rfl rfl rfl (Nat.le_of_ble_eq_true rfl) rfl) ?_
  refine step_gives rfl fun8 rfl (fun w' hh kp => hck w' kp) ?_
  refine step_pure rfl (pure_neq rfl rfl) ?_
  refine Vc.step_end (fun a w ok => ?_)
  first | (refine WPs.run ?_ a w ok; clear ok w a) | skip
  repeat refine s_seqs ?_
  refine s_cond_yes rfl rfl ?_
  repeat refine s_seqs ?_
  refine s_reg ?_
  refine step_pure rfl (pure_build_struct (pl := [(0, 1), (1, 1), (2, 1), (3, 1), (4, 1), (5, 1), (6, 1), (7, 1), (8, 1), (9, 1), (10, 1), (11, 1), (12, 3), (15, 1)]) rfl zero32 rfl rfl rfl rfl) ?_
  refine step_store_agg 0 rfl rfl rfl (of_one rfl) rfl rfl rfl rfl (Nat.le_of_ble_eq_true rfl) (show _ = scC zScr (.slice none 0 0) (.slice none 0 0) from rfl) ?_
  refine Vc.step_end (fun a w ok => ?_)
  first | (refine WPs.run ?_ a w ok; clear ok w a) | skip
  exact s_ret fun a w ok => ends_givesP on (.inr rfl) ok (res_cell_agg (i := 0) Try.results13 rfl rfl rfl rfl rfl (Nat.le_of_ble_eq_true rfl) rfl) scR_mono ⟨_, rfl, zSc_v⟩
 | true =>
 have ok0 := (scOk_iff s).1 hok
 rw [doF_ok ok0]
 rw [hok, if_pos rfl] at hck
 repeat refine s_seqs ?_
 refine s_reg ?_
 refine step_box_agg rfl rfl (fun b2 => ?_)
 refine step_box_agg rfl rfl (fun b3 => ?_)
 refine step_alloc rfl zero32 (fun b4 => ?_)
 refine Vc.step_end (fun a w ok => ?_)
 first | (refine WPs.run ?_ a w ok; clear ok w a) | skip
 repeat refine s_seqs ?_
 refine s_reg ?_
 refine step_pure rfl (pure_load_agg (i := 2) rfl rfl rfl rfl rfl (Nat.le_of_ble_eq_true rfl) rfl) ?_
 refine step_gives rfl fun8 rfl (fun w' hh kp => hck w' kp) ?_
 refine step_pure rfl (pure_neq rfl rfl) ?_
 refine Vc.step_end (fun a w ok => ?_)
 first | (refine WPs.run ?_ a w ok; clear ok w a) | skip
 repeat refine s_seqs ?_
 refine s_cond_no rfl rfl ?_
 refine s_skip fun a w ok => WPs.run ?_ a w ok
 clear ok w a
 clear hck hok
 repeat refine s_seqs ?_
 refine s_reg ?_
 refine step_pure rfl (pure_load_agg (i := 2) rfl rfl rfl rfl rfl (Nat.le_of_ble_eq_true rfl) rfl) ?_
 refine step_givesP on.sc rfl fun9 rfl (fun w' Z' hh kp hZ hC => copy_P s _ w' hZ (hs.mono (Cz.now kp)) k1 k2) ?_
 rintro u E1 g ⟨cs3, rfl, hs3⟩
 rw [doF_ok ok0] at hs3
 replace hs3 : ScV _ s cs3 := hs3
 replace on := on.next g
 clear g hs
 obtain ⟨hl3, ho3⟩ := scv_form hs3
 refine step_store_agg 2 rfl rfl rfl ho3 rfl hl3 rfl rfl (Nat.le_of_ble_eq_true rfl) (splice_all hl3) ?_
 refine Vc.step_end (fun a w ok => ?_)
 first | (refine WPs.run ?_ a w ok; clear ok w a) | skip
 clear hl3 ho3
 obtain ⟨a1, l1, c1, a2, l2, c2, rfl⟩ := scv_agg hs3
 have hs := hs3
 clear hs3
 unfold tmDo
 repeat refine s_seqs ?_
 refine s_reg ?_
 refine step_pure rfl (pure_fieldAddr rfl rfl rfl rfl rfl (by decide)) ?_
 refine step_pure rfl (pure_load (i := 1) rfl rfl rfl rfl rfl rfl) ?_
 refine Vc.step_end (fun a w ok => ?_)
 first | (refine WPs.run ?_ a w ok; clear ok w a) | skip
 repeat refine s_seqs ?_
 refine s_block ?_
 repeat refine s_seqs ?_
 refine s_reg ?_
 refine step_pure rfl (pure_eql rfl rfl) ?_
 refine qa rfl rfl ?_
 refine Vc.step_end (fun a w ok => ?_)
 first | (refine WPs.run ?_ a w ok; clear ok w a) | skip
 repeat refine s_seqs ?_
 refine s_cond rfl (fun h => ?_) (fun h => ?_)
 ·rw [if_pos (beq_iff_eq.1 h)]
  repeat refine s_seqs ?_
  refine s_reg ?_
  refine step_pure rfl (pure_load_agg (i := 2) rfl rfl rfl rfl rfl (Nat.le_of_ble_eq_true rfl) rfl) ?_
  refine step_pure rfl (pure_fieldAddr rfl rfl rfl rfl rfl (by decide)) ?_
  refine step_pure rfl (pure_load (i := 1) rfl rfl rfl rfl rfl rfl) ?_
  refine step_givesP on.sc rfl fun23 rfl (fun w' Z' hh kp hZ hC => put_P s _ ac.rune w' hZ (hs.mono (Cz.now kp)) k1 k2) ?_
  rintro u E5 g ⟨cs', rfl, hs'⟩
  replace on := on.next g
  try rw [doF_ok ok0] at hs'
  obtain ⟨hl5, ho5⟩ := scv_form hs'
  refine step_store_agg 0 rfl rfl rfl ho5 rfl hl5 rfl rfl (Nat.le_of_ble_eq_true rfl) (splice_all hl5) ?_
  refine Vc.step_end (fun a w ok => ?_)
  first | (refine WPs.run ?_ a w ok; clear ok w a) | skip
  exact s_ret fun a w ok => ends_givesP on (.inr rfl) ok (res_cell_agg (i := 0) Try.results13 rfl rfl rfl rfl rfl (by show 0 + 16 ≤ cs'.length; omega) (load_all hl5)) scR_mono ⟨cs', rfl, hs'⟩
 rw [if_neg (by intro e; rw [e] at h; cases h)]
 clear h
 repeat refine s_seqs ?_
 refine s_reg ?_
 refine step_pure rfl (pure_eql rfl rfl) ?_
 refine qa rfl rfl ?_
 refine Vc.step_end (fun a w ok => ?_)
 first | (refine WPs.run ?_ a w ok; clear ok w a) | skip
 repeat refine s_seqs ?_
 refine s_cond rfl (fun h => ?_) (fun h => ?_)
 ·rw [if_pos (beq_iff_eq.1 h)]
  repeat refine s_seqs ?_
  refine s_reg ?_
  refine step_pure rfl (pure_load_agg (i := 2) rfl rfl rfl rfl rfl (Nat.le_of_ble_eq_true rfl) rfl) ?_
  refine step_pure rfl (pure_fieldAddr rfl rfl rfl rfl rfl (by decide)) ?_
  refine step_pure rfl (pure_load (i := 1) rfl rfl rfl rfl rfl rfl) ?_
  refine step_givesP on.sc rfl fun24 rfl (fun w' Z' hh kp hZ hC => control_S s _ ac.rune w' hZ (hs.mono hC) ok0) ?_
  rintro u E5 g ⟨cs', rfl, hs'⟩
  replace on := on.next g
  try rw [doF_ok ok0] at hs'
  obtain ⟨hl5, ho5⟩ := scv_form hs'
  refine step_store_agg 0 rfl rfl rfl ho5 rfl hl5 rfl rfl (Nat.le_of_ble_eq_true rfl) (splice_all hl5) ?_
  refine Vc.step_end (fun a w ok => ?_)
  first | (refine WPs.run ?_ a w ok; clear ok w a) | skip
  exact s_ret fun a w ok => ends_givesP on (.inr rfl) ok (res_cell_agg (i := 0) Try.results13 rfl rfl rfl rfl rfl (by show 0 + 16 ≤ cs'.length; omega) (load_all hl5)) scR_mono ⟨cs', rfl, hs'⟩
 rw [if_neg (by intro e; rw [e] at h; cases h)]
 clear h
 repeat refine s_seqs ?_
 refine s_reg ?_
 refine step_pure rfl (pure_eql rfl rfl) ?_
 refine qa rfl rfl ?_
 refine Vc.step_end (fun a w ok => ?_)
 first | (refine WPs.run ?_ a w ok; clear ok w a) | skip
 repeat refine s_seqs ?_
 refine s_cond rfl (fun h => ?_) (fun h => ?_)
 ·rw [if_pos (beq_iff_eq.1 h)]
  repeat refine s_seqs ?_
  refine s_reg ?_
  refine step_pure rfl (pure_load_agg (i := 2) rfl rfl rfl rfl rfl (Nat.le_of_ble_eq_true rfl) rfl) ?_
  refine step_pure rfl (pure_fieldAddr rfl rfl rfl rfl rfl (by decide)) ?_
  refine step_pure rfl (pure_load (i := 1) rfl rfl rfl rfl rfl rfl) ?_
  refine step_givesP on.sc rfl fun25 rfl (fun w' Z' hh kp hZ hC => escaped_S s _ ac.rune w' hZ (hs.mono hC) ok0) ?_
  rintro u E5 g ⟨cs', rfl, hs'⟩
  replace on := on.next g
  try rw [doF_ok ok0] at hs'
  obtain ⟨hl5, ho5⟩ := scv_form hs'
  refine step_store_agg 0 rfl rfl rfl ho5 rfl hl5 rfl rfl (Nat.le_of_ble_eq_true rfl) (splice_all hl5) ?_
  refine Vc.step_end (fun a w ok => ?_)
  first | (refine WPs.run ?_ a w ok; clear ok w a) | skip
  exact s_ret fun a w ok => ends_givesP on (.inr rfl) ok (res_cell_agg (i := 0) Try.results13 rfl rfl rfl rfl rfl (by show 0 + 16 ≤ cs'.length; omega) (load_all hl5)) scR_mono ⟨cs', rfl, hs'⟩
 rw [if_neg (by intro e; rw [e] at h; cases h)]
 clear h
 repeat refine s_seqs ?_
 refine s_reg ?_
 refine step_pure rfl (pure_eql rfl rfl) ?_
 refine qa rfl rfl ?_
 refine Vc.step_end (fun a w ok => ?_)
 first | (refine WPs.run ?_ a w ok; clear ok w a) | skip
 repeat refine s_seqs ?_
 refine s_cond rfl (fun h => ?_) (fun h => ?_)
 ·rw [if_pos (beq_iff_eq.1 h)]
  unfold tmCsi
  repeat refine s_seqs ?_
  refine s_reg ?_
  refine step_pure rfl (pure_fieldAddr rfl rfl rfl rfl rfl (by decide)) ?_
  refine step_pure rfl (pure_load (i := 1) rfl rfl rfl rfl rfl rfl) ?_
  refine step_pure rfl (pure_not rfl) ?_
  refine Vc.step_end (fun a w ok => ?_)
  first | (refine WPs.run ?_ a w ok; clear ok w a) | skip
  repeat refine s_seqs ?_
  refine s_cond rfl (fun h1 => ?_) (fun h1 => ?_)
  ·have h1 : ac.mark = false := by cases hm : ac.mark <;> rw [hm] at h1 <;> first | rfl | cases h1
   rw [if_pos h1]
   obtain ⟨q, hf1, hf2⟩ := find_ents ac.rune seqTab 0 0
   have hmt := seq_meth ac.rune
   have hans := ans_is q _ hf2
   generalize assocI seqTab ac.rune = o at *
   repeat refine s_seqs ?_
   refine s_dreg [9, 19, 5, 29, 33, 41, 49, 57, 65] ([⟨b3, acC ac, tA⟩]) follows (by kernel_rfl) ?_
   refine d_pure0 rfl rfl rfl (pure_fieldAddr rfl rfl rfl rfl rfl (by decide)) ?_
   refine d_pure1 rfl rfl rfl (pure_load (i := 0) rfl rfl rfl rfl rfl rfl) (by first | exact SubMem.refl _ | exact (SubMem.refl _).cons | exact (SubMem.refl _).cons.cons | exact (SubMem.refl _).cons.cons.cons | exact (SubMem.refl _).cons.cons.cons.cons | exact (fun w hh => Has.sublist (by repeat (first | exact List.Sublist.refl _ | exact List.nil_sublist _ | apply List.Sublist.cons_cons | apply List.Sublist.cons)) hh)) ?_
   refine d_givesM rfl rfl rfl fun26 rfl (fun w' _ _ => seq_M w') rfl (fun b41 E5 g hm => ?_)
   replace on := on.next g
   replace hs := hs.mono g.cz
   clear g
   refine d_only_pure rfl rfl rfl (pure_lookup (z := .nilFunc) rfl rfl underMap underInt hm hf1 zeroFn hans) (fun _ => (by first | exact SubMem.refl _ | exact (SubMem.refl _).cons | exact (SubMem.refl _).cons.cons | exact (SubMem.refl _).cons.cons.cons | exact (SubMem.refl _).cons.cons.cons.cons | exact (fun w hh => Has.sublist (by repeat (first | exact List.Sublist.refl _ | exact List.nil_sublist _ | apply List.Sublist.cons_cons | apply List.Sublist.cons)) hh))) rfl ?_
   refine qd rfl rfl rfl rfl ?_
   refine d_pure0 rfl rfl rfl (pure_extract rfl rfl) ?_
   refine d_pure0 rfl rfl rfl (pure_extract rfl rfl) ?_
   refine d_pure0 rfl rfl rfl (pure_assign rfl) ?_
   refine d_pure0 rfl rfl rfl (pure_assign rfl) ?_
   refine d_end (fun a w ok => ?_)
   first | (refine WPs.run ?_ a w ok; clear ok w a) | skip
   clear hm hans hf1 hf2
   repeat refine s_seqs ?_
   refine s_reg ?_
   refine qm rfl rfl ?_
   refine Vc.step_end (fun a w ok => ?_)
   first | (refine WPs.run ?_ a w ok; clear ok w a) | skip
   rcases hmt with ⟨rfl, ht⟩ | ⟨f, G, rfl, ht, hfn, hdoes⟩
   ·rw [ht]
    repeat refine s_seqs ?_
    refine s_cond_no rfl rfl ?_
    refine s_skip fun a w ok => WPs.run ?_ a w ok
    clear ok w a
    repeat refine s_seqs ?_
    refine s_reg ?_
    refine step_pure rfl (pure_load_agg (i := 2) rfl rfl rfl rfl rfl (Nat.le_of_ble_eq_true rfl) rfl) ?_
    refine step_store_agg 0 rfl rfl rfl (of_one rfl) rfl rfl rfl rfl (Nat.le_of_ble_eq_true rfl) (show _ = scC s (.slice a1 l1 c1) (.slice a2 l2 c2) from rfl) ?_
    refine Vc.step_end (fun a w ok => ?_)
    first | (refine WPs.run ?_ a w ok; clear ok w a) | skip
    exact s_ret fun a w ok => ends_givesP on (.inr rfl) ok (res_cell_agg (i := 0) Try.results13 rfl rfl rfl rfl rfl (Nat.le_of_ble_eq_true rfl) rfl) scR_mono ⟨_, rfl, hs⟩
   ·rw [ht]
    repeat refine s_seqs ?_
    refine s_cond_yes rfl rfl ?_
    repeat refine s_seqs ?_
    refine s_reg ?_
    refine qm rfl rfl ?_
    refine step_pure rfl (pure_load_agg (i := 2) rfl rfl rfl rfl rfl (Nat.le_of_ble_eq_true rfl) rfl) ?_
    refine step_pure rfl (pure_build_struct (vs := [(0, .agg (scC s (.slice a1 l1 c1) (.slice a2 l2 c2)).toArray)]) (pl := [(0, 16)]) rfl zero72 rfl rfl rfl (fill_one rfl rfl (by decide) rfl)) ?_
    refine step_pure rfl (pure_load_agg (i := 1) (vs := acC ac) rfl rfl rfl rfl rfl (ac_le h8) (load_all (ac_len h8))) ?_
    refine step_givesPc on.sc rfl (caps := []) rfl hfn rfl rfl (fun w' Z' hh kp hZ hC => hdoes s _ ac w' Z' hZ (hs.mono hC) ok0 h8) ?_
    rintro u E6 g ⟨cs', rfl, hs'⟩
    replace on := on.next g
    obtain ⟨hl5, ho5⟩ := scv_form hs'
    refine step_store_agg 0 rfl rfl rfl ho5 rfl hl5 rfl rfl (Nat.le_of_ble_eq_true rfl) (splice_all hl5) ?_
    refine Vc.step_end (fun a w ok => ?_)
    first | (refine WPs.run ?_ a w ok; clear ok w a) | skip
    exact s_ret fun a w ok => ends_givesP on (.inr rfl) ok (res_cell_agg (i := 0) Try.results13 rfl rfl rfl rfl rfl (by show 0 + 16 ≤ cs'.length; omega) (load_all hl5)) scR_mono ⟨cs', rfl, hs'⟩
  have h1 : ¬ ac.mark = false := by intro e; rw [e] at h1; cases h1
  rw [if_neg h1]
  refine s_skip fun a w ok => WPs.run ?_ a w ok
  clear ok w a
  clear h1 h
  repeat refine s_seqs ?_
  refine s_meet [(2, .pointer (some ⟨b2, 0, none⟩)), (3, .pointer (some ⟨b3, 0, none⟩)), (4, .pointer (some ⟨b4, 0, none⟩)), (61, .bool (decide (ac.rune ≠ 104 ∧ ac.rune ≠ 108)))] [⟨b4, scC zScr (.slice none 0 0) (.slice none 0 0), tSc⟩, ⟨b3, acC ac, tA⟩, ⟨b2, scC s (.slice a1 l1 c1) (.slice a2 l2 c2), tSc⟩] ?_ (fun a w ok => WPs.run ?_ a w ok)
  ·clear hs ok0 k1 k2
   repeat refine c_seq ?_
   refine c_region ?_
   refine step_pure rfl (pure_fieldAddr rfl rfl rfl rfl rfl (by decide)) ?_
   refine step_pure rfl (pure_load (i := 1) rfl rfl rfl rfl rfl rfl) ?_
   refine step_pure rfl (pure_neq rfl rfl) ?_
   refine qm rfl rfl ?_
   refine step_split (t := 57) rfl (fun h57 => ?_) (fun h57 => ?_)
   ·refine step_pure rfl (pure_fieldAddr rfl rfl rfl rfl rfl (by decide)) ?_
    refine step_pure rfl (pure_load (i := 1) rfl rfl rfl rfl rfl rfl) ?_
    refine step_pure rfl (pure_neq rfl rfl) ?_
    refine step_pure rfl (pure_pick_yes rfl rfl) ?_
    refine step_nil ?_
    refine less_of ⟨rfl, rfl, rfl, ?_, trivial⟩ rfl
    refine congrArg some (congrArg Value.bool ?_)
    simp_all
    all_goals try first | omega | rfl | (rw [Bool.eq_iff_iff]; simp; done) | (rw [Bool.eq_iff_iff]; simp; omega)
   ·refine qp rfl rfl rfl ?_
    refine qp rfl rfl rfl ?_
    refine qp rfl rfl rfl ?_
    refine step_pure rfl (pure_pick_no rfl rfl) ?_
    refine step_nil ?_
    refine less_of ⟨rfl, rfl, rfl, ?_, trivial⟩ rfl
    refine congrArg some (congrArg Value.bool ?_)
    simp_all
    all_goals try first | omega | rfl | (rw [Bool.eq_iff_iff]; simp; done) | (rw [Bool.eq_iff_iff]; simp; omega)
  repeat refine s_seqs ?_
  refine s_cond rfl (fun h => ?_) (fun h => ?_)
  ·rw [if_pos (of_decide_eq_true h)]
   repeat refine s_seqs ?_
   refine s_reg ?_
   refine step_pure rfl (pure_load_agg (i := 2) rfl rfl rfl rfl rfl (Nat.le_of_ble_eq_true rfl) rfl) ?_
   refine step_store_agg 0 rfl rfl rfl (of_one rfl) rfl rfl rfl rfl (Nat.le_of_ble_eq_true rfl) (show _ = scC s (.slice a1 l1 c1) (.slice a2 l2 c2) from rfl) ?_
   refine Vc.step_end (fun a w ok => ?_)
   first | (refine WPs.run ?_ a w ok; clear ok w a) | skip
   exact s_ret fun a w ok => ends_givesP on (.inr rfl) ok (res_cell_agg (i := 0) Try.results13 rfl rfl rfl rfl rfl (Nat.le_of_ble_eq_true rfl) rfl) scR_mono ⟨_, rfl, hs⟩
  rw [if_neg (of_decide_eq_false h)]
  refine s_skip fun a w ok => WPs.run ?_ a w ok
  clear ok w a
  clear h
  repeat refine s_seqs ?_
  refine s_reg ?_
  refine step_pure rfl (pure_load_agg (i := 1) (vs := acC ac) rfl rfl rfl rfl rfl (ac_le h8) (load_all (ac_len h8))) ?_
  refine step_givesP on.sc rfl fun27 rfl (fun w' Z' hh kp hZ hC => params_P ac w' hZ h8) ?_
  rintro v E1 g hv
  replace on := on.next g
  replace hs := hs.mono g.cz
  clear g
  replace hv : SlC _ 1 v (tmParams ac).length (ints .i64 (tmParams ac)) := hv
  obtain ⟨base0, cap0, rfl, _⟩ := slc_sl hv
  refine step_pure rfl (pure_len_slice rfl rfl rfl) ?_
  refine qm rfl rfl ?_
  refine Vc.step_end (fun a w ok => ?_)
  first | (refine WPs.run ?_ a w ok; clear ok w a) | skip
  have hpl : (tmParams ac).length ≤ 8 := by rw [tmParams_len h8]; have := tmMany_in ac; omega
  generalize tmParams ac = l at *
  repeat refine s_seqs ?_
  refine s_block ?_
  repeat refine s_seqs ?_
  refine s_loopP (α := Nat × Scr × List Value) (fun y => [(2, .pointer (some ⟨b2, 0, none⟩)), (3, .pointer (some ⟨b3, 0, none⟩)), (4, .pointer (some ⟨b4, 0, none⟩)), (64, .slice base0 l.length cap0), (65, .int .i64 l.length), (66, .int .i64 y.1)])
   (fun y => [⟨b4, scC zScr (.slice none 0 0) (.slice none 0 0), tSc⟩, ⟨b3, acC ac, tA⟩, ⟨b2, y.2.2, tSc⟩])
   (fun y E => y.1 ≤ l.length ∧ ScV (Cz Z E) y.2.1 y.2.2 ∧ ScOk y.2.1 ∧ tmModes (ac.rune == 104) l s = tmModes (ac.rune == 104) (l.drop y.1) y.2.1) (fun y => l.length - y.1) (0, s, _) ⟨Nat.zero_le _, hs, ok0, rfl⟩ (less_sub ⟨rfl, rfl, rfl, rfl, rfl, rfl, trivial⟩ (by repeat (first | exact List.Sublist.refl _ | exact List.nil_sublist _ | apply List.Sublist.cons_cons | apply List.Sublist.cons))) ?_
  rintro ⟨i, s1, cs1⟩ E2 ⟨hi, hs1, ok1, hrun⟩ g
  replace on := on.next g
  replace hv := hv.mono g.cz
  clear g hs
  dsimp only at hi hs1 ok1 hrun ⊢
  obtain ⟨hl1, ho1⟩ := scv_form hs1
  repeat refine s_seqs ?_
  refine s_reg ?_
  refine step_pure rfl (pure_lss rfl rfl) ?_
  refine Vc.step_end (fun a w ok => ?_)
  first | (refine WPs.run ?_ a w ok; clear ok w a) | skip
  repeat refine s_seqs ?_
  refine s_cond rfl (fun h1 => ?_) (fun h1 => ?_)
  ·have hlt : i < l.length := by have := of_decide_eq_true h1; omega
   clear h1
   refine s_skip fun a w ok => WPs.run ?_ a w ok
   clear ok w a
   obtain ⟨p, cap', e1, q1⟩ := slc_at1 hv hlt
   cases e1
   have hd : l.drop i = l[i] :: l.drop (i + 1) := List.drop_eq_getElem_cons hlt
   generalize l[i] = n at *
   repeat refine s_seqs ?_
   refine s_block ?_
   repeat refine s_seqs ?_
   refine s_reg ?_
   refine step_pure rfl (pure_indexAddr_at rfl rfl rfl rfl rfl (by omega) (by omega)) ?_
   refine step_pure rfl (pure_cel rfl rfl rfl (show (Cel E2) _ _ from by rw [Int.toNat_natCast]; exact q1.1)) ?_
   refine qa rfl rfl ?_
   refine Vc.step_end (fun a w ok => ?_)
   first | (refine WPs.run ?_ a w ok; clear ok w a) | skip
   repeat refine s_seqs ?_
   refine s_reg ?_
   refine step_pure rfl (pure_load_agg (i := 2) (vs := cs1) rfl rfl rfl rfl rfl (by show 0 + 16 ≤ cs1.length; omega) (load_all hl1)) ?_
   refine qm rfl rfl ?_
   refine step_pure rfl (pure_fieldAddr rfl rfl rfl rfl rfl (by decide)) ?_
   refine step_pure rfl (pure_load (i := 1) rfl rfl rfl rfl rfl rfl) ?_
   refine step_pure rfl (pure_eql rfl rfl) ?_
   refine step_givesP on.sc rfl fun28 rfl (fun w' Z' hh kp hZ hC => mode_S s1 cs1 n (ac.rune == 104) w' hZ (hs1.mono hC) ok1) ?_
   rintro u E3 g ⟨cs5, rfl, hs5⟩
   replace on := on.next g
   obtain ⟨hl5, ho5⟩ := scv_form hs5
   refine step_store_agg 2 rfl rfl rfl ho5 rfl hl5 rfl rfl (by show 0 + 16 ≤ cs1.length; omega) (splice_all (by rw [hl5]; exact hl1.symm)) ?_
   refine Vc.step_end (fun a w ok => ?_)
   first | (refine WPs.run ?_ a w ok; clear ok w a) | skip
   repeat refine s_seqs ?_
   refine s_reg ?_
   first | refine step_pure rfl (pure_add64 rfl rfl (by omega) (by omega)) ?_ | refine step_pure rfl (pure_add rfl rfl) ?_
   refine qm rfl rfl ?_
   refine Vc.step_end (fun a w ok => ?_)
   refine ⟨(i + 1, tmMode n (ac.rune == 104) s1, cs5), E3, ⟨hlt, hs5, (still_mode ok1 _ _).ok, by rw [hrun, hd]; rfl⟩, by show l.length - (i + 1) < l.length - i; omega, g, Less.ok ?_ ok⟩
   exact less_sub ⟨rfl, rfl, rfl, rfl, rfl, rfl, trivial⟩ (by repeat (first | exact List.Sublist.refl _ | exact List.nil_sublist _ | apply List.Sublist.cons_cons | apply List.Sublist.cons))
  ·have hge : i = l.length := by have := of_decide_eq_false h1; omega
   clear h1
   subst hge
   rw [List.drop_length] at hrun
   refine s_exit fun a w ok => WPs.run ?_ a w ok
   clear ok w a
   repeat refine s_seqs ?_
   refine s_reg ?_
   refine step_pure rfl (pure_load_agg (i := 2) (vs := cs1) rfl rfl rfl rfl rfl (by show 0 + 16 ≤ cs1.length; omega) (load_all hl1)) ?_
   refine step_store_agg 0 rfl rfl rfl ho1 rfl hl1 rfl rfl (Nat.le_of_ble_eq_true rfl) (splice_all hl1) ?_
   refine Vc.step_end (fun a w ok => ?_)
   first | (refine WPs.run ?_ a w ok; clear ok w a) | skip
   exact s_ret fun a w ok => ends_givesP on (.inr rfl) ok (res_cell_agg (i := 0) Try.results13 rfl rfl rfl rfl rfl (by show 0 + 16 ≤ cs1.length; omega) (load_all hl1)) scR_mono ⟨cs1, rfl, by rw [hrun]; exact hs1⟩
 rw [if_neg (by intro e; rw [e] at h; cases h)]
 clear h
 refine s_skip fun a w ok => WPs.run ?_ a w ok
 clear ok w a
 repeat refine s_seqs ?_
 refine s_reg ?_
 refine step_pure rfl (pure_load_agg (i := 2) rfl rfl rfl rfl rfl (Nat.le_of_ble_eq_true rfl) rfl) ?_
 refine step_store_agg 0 rfl rfl rfl (of_one rfl) rfl rfl rfl rfl (Nat.le_of_ble_eq_true rfl) (show _ = scC s (.slice a1 l1 c1) (.slice a2 l2 c2) from rfl) ?_
 refine Vc.step_end (fun a w ok => ?_)
 first | (refine WPs.run ?_ a w ok; clear ok w a) | skip
 exact s_ret fun a w ok => ends_givesP on (.inr rfl) ok (res_cell_agg (i := 0) Try.results13 rfl rfl rfl rfl rfl (Nat.le_of_ble_eq_true rfl) rfl) scR_mono ⟨_, rfl, hs⟩
end Go.Proofs.Ytadginombcjbeaa
