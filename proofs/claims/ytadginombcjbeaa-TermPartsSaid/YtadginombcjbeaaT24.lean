/- The law TermParts: walked. -/
import Derived.Test.YtadginombcjbeaaT23
namespace Go.Proofs.Ytadginombcjbeaa
open Go.RowKit Go.Vc
set_option linter.unusedVariables false
theorem part_hi {C : Addr → Value → Prop} {a : Option Addr} {cap K : Nat} {bs : List Int} (h : SlC C 1 (.slice a bs.length cap) bs.length (row bs)) (hK : K ≤ bs.length) : SlC C 1 (subS a cap 1 0 K) (bs.take K).length (row (bs.take K)) := by
 have h1 := slc_sub h (Nat.zero_le K) hK
 rw [Nat.sub_zero, Nat.zero_mul, List.drop_zero, Nat.mul_one] at h1
 rw [List.length_take, Nat.min_eq_left hK]
 unfold row ints at h1 ⊢
 rw [List.map_take]
 exact h1
theorem part_lo {C : Addr → Value → Prop} {a : Option Addr} {cap K : Nat} {bs : List Int} (h : SlC C 1 (.slice a bs.length cap) bs.length (row bs)) (hK : K ≤ bs.length) : SlC C 1 (subS a cap 1 K bs.length) (bs.drop K).length (row (bs.drop K)) := by
 have h1 := slc_sub h hK (Nat.le_refl _)
 rw [Nat.mul_one, Nat.mul_one, List.take_of_length_le (by rw [List.length_drop, row_len]; exact Nat.le_refl _)] at h1
 rw [List.length_drop]
 unfold row ints at h1 ⊢
 rw [List.map_drop]
 exact h1
theorem okZ_does : ∀ (l : List Ac) {s : Scr}, OkZ s → OkZ (tmDoes l s)
 | [], s, h => h
 | a :: l, s, h => okZ_does l (okZ_do h a)
theorem feed_okZ (t : Tm) (bs : List Int) : OkZ (tmFeed t bs).s := okZ_does _ (okZ_copy _)
set_option maxHeartbeats 4000000 in
theorem termparts_any (t : Tm) (cs : List Value) (bs : List Int) (cut : Int) (v : Value) (w : World) (hs : ScV (At w) t.s cs) (k1 : t.s.cells.length ≤ maxLen) (k2 : t.s.main.length ≤ maxLen) (h8 : Ac8 t.pa.act)
  (hv : SlC (At w) 1 v bs.length (row bs)) (hle : bs.length ≤ maxLen) (hcut : 0 ≤ cut ∧ cut < 65536) :
  Gives tb 4 [.agg (tmL t.ut t.pa cs).toArray, v, .int .u16 cut] w (.bool true) := by
 have hmx : maxLen ≤ 9223372036854775807 := by decide
 have hcw : IntKind.i64.wrap cut = cut := wrap_i64 (by omega) (by omega)
 replace hs := scv_cz hs
 replace hv : SlC (Cz (fun _ => True) ⟨w, [], []⟩) 1 v bs.length (row bs) := hv.mono fun p x h => ⟨⟨h, by simp⟩, trivial⟩
 obtain ⟨base0, cap0, rfl, hcap0⟩ := slc_sl hv
 obtain ⟨u1, u2, rfl, hq1, hq2⟩ := hs
 obtain ⟨a1, c1, rfl, _⟩ := slc_sl hq1
 obtain ⟨a2, c2, rfl, _⟩ := slc_sl hq2
 have hs : ScV (Cz (fun _ => True) ⟨w, [], []⟩) t.s (scC t.s (.slice a1 t.s.cells.length c1) (.slice a2 t.s.main.length c2)) := ⟨_, _, rfl, hq1, hq2⟩
 clear hq1 hq2
 have hfd := fun (w' : World) (Z' : Nat → Prop) (cs : List Int) (v : Value) hZ (h : ScV (At w') t.s (scC t.s (.slice a1 t.s.cells.length c1) (.slice a2 t.s.main.length c2))) (hv' : SlC (At w') 1 v cs.length (row cs)) (hb : cs.length ≤ 1000) => feed_P t _ cs v w' (Z := Z') hZ h k1 k2 h8 hv' hb
 obtain ⟨L, hL⟩ : ∃ L, L = tmL t.ut t.pa (scC t.s (.slice a1 t.s.cells.length c1) (.slice a2 t.s.main.length c2)) := ⟨_, rfl⟩
 have hL2 : L.length = 32 := by rw [hL]; exact tmL_len h8 rfl
 have hsc : ((tmL t.ut t.pa (scC t.s (.slice a1 t.s.cells.length c1) (.slice a2 t.s.main.length c2))).drop 16).take 16 = scC t.s (.slice a1 t.s.cells.length c1) (.slice a2 t.s.main.length c2) := by
  show ((paC t.pa ++ _).drop 13).take 16 = _
  rw [List.drop_left' (pa_len h8)]
  rfl
 rw [← hL] at hsc hfd ⊢
 have hat : ∀ k : Nat, k < 16 → L[16 + k]? = (scC t.s (.slice a1 t.s.cells.length c1) (.slice a2 t.s.main.length c2))[k]? := fun k hk => by
  have h1 := congrArg (fun x => x[k]?) hsc
  rw [List.getElem?_take, if_pos hk, List.getElem?_drop] at h1
  exact h1
 have hL18 := hat 2 (by decide)
 have hL31 := hat 15 (by decide)
 have hLo : ∀ v ∈ L, v.oneCell' = true := by rw [hL]; exact tm_one (scv_form hs).2
 clear hL hat hsc
 refine gives_ofk (fn := Try.f4) Try.func4 rfl Try.ntmps4 rfl (fun on => ?_)
 repeat refine s_seqs ?_
 refine s_reg ?_
 refine step_box_agg rfl rfl (fun b3 => ?_)
 refine qa rfl rfl ?_
 refine Vc.step_end (fun a w ok => ?_)
 first | (refine WPs.run ?_ a w ok; clear ok w a) | skip
 repeat refine s_seqs ?_
 refine s_reg ?_
 refine step_gives rfl fun7 rfl (fun w _ _ => tawake_any w) ?_
 refine qa rfl rfl ?_
 refine Vc.step_end (fun a w ok => ?_)
 first | (refine WPs.run ?_ a w ok; clear ok w a) | skip
 repeat refine s_seqs ?_
 refine s_meet [(1, .slice base0 bs.length cap0), (2, .int .u16 cut), (3, .pointer (some ⟨b3, 0, none⟩)), (6, .bool false), (7, .bool true),
  (26, .bool ((decide ((t.s.cells.length : Int) > 500) || decide ((t.s.main.length : Int) > 500)) || decide ((bs.length : Int) > 300)))] [⟨b3, L, tT⟩] ?_ (fun a w ok => WPs.run ?_ a w ok)
 ·clear hfd
  obtain ⟨d1, e1⟩ : ∃ d, decide ((t.s.cells.length : Int) > 500) = d := ⟨_, rfl⟩
  obtain ⟨d2, e2⟩ : ∃ d, decide ((t.s.main.length : Int) > 500) = d := ⟨_, rfl⟩
  obtain ⟨d3, e3⟩ : ∃ d, decide ((bs.length : Int) > 300) = d := ⟨_, rfl⟩
  rw [e1, e2, e3]
  repeat refine c_seq ?_
  refine c_region ?_
  refine step_pure rfl (pure_fieldAddr rfl rfl rfl rfl rfl (by decide)) ?_
  refine step_pure rfl (pure_fieldAddr rfl rfl rfl rfl rfl (by decide)) ?_
  refine step_pure rfl (pure_load (i := 0) rfl rfl rfl rfl rfl hL18) ?_
  refine step_pure rfl (pure_len_slice rfl rfl rfl) ?_
  refine step_as rfl (pure_gtr rfl rfl) (congrArg Value.bool e1) ?_
  refine qm rfl rfl ?_
  refine step_split (t := 15) rfl (fun h15 => ?_) (fun h15 => ?_)
  ·refine qp rfl rfl rfl ?_
   refine qp rfl rfl rfl ?_
   refine qp rfl rfl rfl ?_
   refine qp rfl rfl rfl ?_
   refine qp rfl rfl rfl ?_
   refine step_pure rfl (pure_pick_yes rfl rfl) ?_
   refine qm rfl rfl ?_
   refine qp rfl rfl rfl ?_
   refine qp rfl rfl rfl ?_
   refine qp rfl rfl rfl ?_
   refine step_pure rfl (pure_pick_yes rfl rfl) ?_
   refine step_nil ?_
   refine less_of ⟨rfl, rfl, rfl, rfl, rfl, ?_, trivial⟩ rfl
   refine congrArg some (congrArg Value.bool ?_)
   clear e1 e2 e3 hs hL18 hL31 hLo hL2
   simp_all
  ·refine step_pure rfl (pure_fieldAddr rfl rfl rfl rfl rfl (by decide)) ?_
   refine step_pure rfl (pure_fieldAddr rfl rfl rfl rfl rfl (by decide)) ?_
   refine step_pure rfl (pure_load (i := 0) rfl rfl rfl rfl rfl hL31) ?_
   refine step_pure rfl (pure_len_slice rfl rfl rfl) ?_
   refine step_as rfl (pure_gtr rfl rfl) (congrArg Value.bool e2) ?_
   refine step_pure rfl (pure_pick_no rfl rfl) ?_
   refine qm rfl rfl ?_
   refine step_split (t := 22) rfl (fun h22 => ?_) (fun h22 => ?_)
   ·refine qp rfl rfl rfl ?_
    refine qp rfl rfl rfl ?_
    refine qp rfl rfl rfl ?_
    refine step_pure rfl (pure_pick_yes rfl rfl) ?_
    refine step_nil ?_
    refine less_of ⟨rfl, rfl, rfl, rfl, rfl, ?_, trivial⟩ rfl
    refine congrArg some (congrArg Value.bool ?_)
    clear e1 e2 e3 hs hL18 hL31 hLo hL2
    simp_all
   ·refine qm rfl rfl ?_
    refine step_pure rfl (pure_len_slice rfl rfl rfl) ?_
    refine step_as rfl (pure_gtr rfl rfl) (congrArg Value.bool e3) ?_
    refine step_pure rfl (pure_pick_no rfl rfl) ?_
    refine step_nil ?_
    refine less_of ⟨rfl, rfl, rfl, rfl, rfl, ?_, trivial⟩ rfl
    refine congrArg some (congrArg Value.bool ?_)
    clear e1 e2 e3 hs hL18 hL31 hLo hL2
    simp_all
 repeat refine s_seqs ?_
 refine s_cond rfl (fun h => ?_) (fun h => ?_)
 ·repeat refine s_seqs ?_
  refine s_reg ?_
  refine qm rfl rfl ?_
  refine qa rfl rfl ?_
  refine Vc.step_end (fun a w ok => ?_)
  first | (refine WPs.run ?_ a w ok; clear ok w a) | skip
  exact s_ret fun a w ok => ends_k on (.inr rfl) ok (res_tmp Try.results4 rfl)
 have hb300 : bs.length ≤ 300 := by
  simp only [Bool.or_eq_false_iff, decide_eq_false_iff_not] at h
  omega
 clear h
 refine s_skip fun a w ok => WPs.run ?_ a w ok
 clear ok w a
 repeat refine s_seqs ?_
 refine s_reg ?_
 refine qa rfl rfl ?_
 refine Vc.step_end (fun a w ok => ?_)
 first | (refine WPs.run ?_ a w ok; clear ok w a) | skip
 repeat refine s_seqs ?_
 refine s_reg ?_
 refine qm rfl rfl ?_
 refine step_pure rfl (pure_len_slice rfl rfl rfl) ?_
 refine step_pure rfl (pure_gtr rfl rfl) ?_
 refine Vc.step_end (fun a w ok => ?_)
 first | (refine WPs.run ?_ a w ok; clear ok w a) | skip
 obtain ⟨K, hK, hKi⟩ : ∃ K : Nat, K ≤ bs.length ∧ (if (bs.length : Int) > 0 then cut % bs.length else 0) = K := by
  by_cases h0 : (bs.length : Int) > 0
  ·have h1 := Int.emod_nonneg cut (show (bs.length : Int) ≠ 0 by omega)
   have h2 := Int.emod_lt_of_pos cut h0
   exact ⟨(cut % bs.length).toNat, by omega, by rw [if_pos h0]; omega⟩
  ·exact ⟨0, Nat.zero_le _, by rw [if_neg h0]; rfl⟩
 repeat refine s_seqs ?_
 refine s_meet [(1, .slice base0 bs.length cap0), (3, .pointer (some ⟨b3, 0, none⟩)), (7, .bool true), (8, .int .i64 K)] [⟨b3, L, tT⟩] ?_ (fun a w ok => WPs.run ?_ a w ok)
 ·repeat refine c_seq ?_
  refine c_cond rfl (fun h => ?_) (fun h => ?_)
  ·have h := of_decide_eq_true h
   rw [if_pos h] at hKi
   repeat refine c_seq ?_
   refine c_region ?_
   refine qm rfl rfl ?_
   refine step_as rfl (pure_conv rfl rfl rfl rfl) (congrArg (Value.int .i64) hcw) ?_
   refine qm rfl rfl ?_
   refine step_pure rfl (pure_len_slice rfl rfl rfl) ?_
   refine step_as rfl (pure_rem_pos rfl rfl (by omega) (by omega)) (congrArg (Value.int .i64) hKi) ?_
   refine qa rfl rfl ?_
   refine step_nil ?_
   exact less_of ⟨rfl, rfl, rfl, rfl, trivial⟩ rfl
  ·rw [if_neg (of_decide_eq_false h)] at hKi
   rw [← hKi]
   exact c_skip (less_of ⟨rfl, rfl, rfl, rfl, trivial⟩ rfl)
 clear hKi hcw hcut
 have hv1 := part_hi hv hK
 have hv2 := part_lo hv hK
 have hap : tmFeed (tmFeed t (bs.take K)) (bs.drop K) = tmFeed t bs := by rw [feed_parts, List.take_append_drop]
 have hz1 := okZ_lens (feed_okZ t (bs.take K))
 have hz2 := okZ_lens (feed_okZ t bs)
 have h81 := feed8 h8 (bs.take K)
 have h82 := feed8 h8 bs
 have hl1 : (bs.take K).length ≤ 1000 := by rw [List.length_take]; omega
 have hl2 : (bs.drop K).length ≤ 1000 := by rw [List.length_drop]; omega
 have hfd2 := fun (w' : World) (Z' : Nat → Prop) (cs : List Value) (v : Value) hZ (h : ScV (At w') (tmFeed t (bs.take K)).s cs) (hv' : SlC (At w') 1 v (bs.drop K).length (row (bs.drop K))) => feed_P (tmFeed t (bs.take K)) cs (bs.drop K) v w' (Z := Z') hZ h hz1.1 hz1.2 h81 hv' hl2
 rw [hap] at hfd2
 clear hap
 repeat refine s_seqs ?_
 refine s_dreg [1, 9, 19, 25, 33, 41, 57, 65, 73, 91, 97, 53, 85, 109, 117, 121, 129] ([⟨b3, L, tT⟩]) follows (by kernel_rfl) ?_
 refine qd rfl rfl rfl rfl ?_
 refine qd rfl rfl rfl rfl ?_
 first | refine d_pure1 rfl rfl rfl (pure_load_agg (i := 0) (vs := L) rfl rfl rfl rfl rfl (by show 0 + 32 ≤ L.length; omega) (load_all hL2)) (by first | exact SubMem.refl _ | exact (SubMem.refl _).cons | exact (SubMem.refl _).cons.cons | exact (SubMem.refl _).cons.cons.cons | exact (SubMem.refl _).cons.cons.cons.cons | exact (fun w hh => Has.sublist (by repeat (first | exact List.Sublist.refl _ | exact List.nil_sublist _ | apply List.Sublist.cons_cons | apply List.Sublist.cons)) hh)) ?_ | refine d_pass rfl rfl rfl (fun _ => (by first | exact SubMem.refl _ | exact (SubMem.refl _).cons | exact (SubMem.refl _).cons.cons | exact (SubMem.refl _).cons.cons.cons | exact (SubMem.refl _).cons.cons.cons.cons | exact (fun w hh => Has.sublist (by repeat (first | exact List.Sublist.refl _ | exact List.nil_sublist _ | apply List.Sublist.cons_cons | apply List.Sublist.cons)) hh))) rfl rfl rfl ?_
 first | refine qd rfl rfl rfl rfl ?_ | refine d_pass rfl rfl rfl (fun h => by cases h) rfl rfl rfl ?_
 first | refine qd rfl rfl rfl rfl ?_ | refine d_pass rfl rfl rfl (fun h => by cases h) rfl rfl rfl ?_
 first | refine d_as0 rfl rfl rfl (pure_sub_hi rfl rfl rfl rfl rfl (by omega) (by omega)) (show _ = subS base0 cap0 1 0 K from by rw [Int.toNat_natCast]) ?_ | refine d_pass rfl rfl rfl (fun h => by cases h) rfl rfl rfl ?_
 first | refine qd rfl rfl rfl rfl ?_ | refine d_pass rfl rfl rfl (fun h => by cases h) rfl rfl rfl ?_
 first | refine qd rfl rfl rfl rfl ?_ | refine d_pass rfl rfl rfl (fun h => by cases h) rfl rfl rfl ?_
 first | refine d_as0 rfl rfl rfl (pure_sub_lo rfl rfl rfl rfl rfl (by omega) (by omega)) (show _ = subS base0 cap0 1 K bs.length from by rw [Int.toNat_natCast]) ?_ | refine d_pass rfl rfl rfl (fun h => by cases h) rfl rfl rfl ?_
 first | refine d_pure1 rfl rfl rfl (pure_load_agg (i := 0) (vs := L) rfl rfl rfl rfl rfl (by show 0 + 32 ≤ L.length; omega) (load_all hL2)) (by first | exact SubMem.refl _ | exact (SubMem.refl _).cons | exact (SubMem.refl _).cons.cons | exact (SubMem.refl _).cons.cons.cons | exact (SubMem.refl _).cons.cons.cons.cons | exact (fun w hh => Has.sublist (by repeat (first | exact List.Sublist.refl _ | exact List.nil_sublist _ | apply List.Sublist.cons_cons | apply List.Sublist.cons)) hh)) ?_ | refine d_pass rfl rfl rfl (fun _ => (by first | exact SubMem.refl _ | exact (SubMem.refl _).cons | exact (SubMem.refl _).cons.cons | exact (SubMem.refl _).cons.cons.cons | exact (SubMem.refl _).cons.cons.cons.cons | exact (fun w hh => Has.sublist (by repeat (first | exact List.Sublist.refl _ | exact List.nil_sublist _ | apply List.Sublist.cons_cons | apply List.Sublist.cons)) hh))) rfl rfl rfl ?_
 first | refine qd rfl rfl rfl rfl ?_ | refine d_pass rfl rfl rfl (fun h => by cases h) rfl rfl rfl ?_
 first | refine d_givesP on.sc rfl rfl rfl fun10 rfl (fun w' Z' hh kp hZ hC => hfd w' Z' (bs.take K) _ hZ (hs.mono (Cz.now kp)) (hv1.mono (Cz.now kp)) hl1) rfl ?_ | refine d_pass rfl rfl rfl (fun h => by cases h) rfl rfl rfl ?_
 rintro u E1 g ⟨cs1, rfl, hs1⟩
 replace on := on.next g
 replace hs := hs.mono g.cz
 replace hv := hv.mono g.cz
 replace hv2 := hv2.mono g.cz
 clear g
 first | refine d_givesP on.sc rfl rfl rfl fun10 rfl (fun w' Z' hh kp hZ hC => hfd2 w' Z' cs1 _ hZ (hs1.mono (Cz.now kp)) (hv2.mono (Cz.now kp))) rfl ?_ | refine d_pass rfl rfl rfl (fun h => by cases h) rfl rfl rfl ?_
 rintro u E2 g ⟨cs2, rfl, hs2⟩
 replace on := on.next g
 replace hs := hs.mono g.cz
 replace hv := hv.mono g.cz
 clear g
 first | refine d_givesP on.sc rfl rfl rfl fun10 rfl (fun w' Z' hh kp hZ hC => hfd w' Z' bs _ hZ (hs.mono (Cz.now kp)) (hv.mono (Cz.now kp)) (by omega)) rfl ?_ | refine d_pass rfl rfl rfl (fun h => by cases h) rfl rfl rfl ?_
 rintro u E3 g ⟨cs3, rfl, hs3⟩
 replace on := on.next g
 replace hs2 := hs2.mono g.cz
 clear g
 first | refine d_givesP on.sc rfl rfl rfl fun12 rfl (fun w' Z' hh kp hZ hC => givesP_of_gives (tsame_eq (tmFeed t bs) cs2 cs3 w' (hs2.mono (Cz.now kp)) (hs3.mono (Cz.now kp)) hz2.1 hz2.2 h82)) rfl ?_ | refine d_pass rfl rfl rfl (fun h => by cases h) rfl rfl rfl ?_
 rintro _ E4 g rfl
 replace on := on.next g
 first | refine d_pure0 rfl rfl rfl (pure_pick_yes rfl rfl) ?_ | refine d_pure0 rfl rfl rfl (pure_pick_no rfl rfl) ?_ | refine d_pure0 rfl rfl rfl (pure_pick_bool rfl rfl rfl) ?_
 refine d_pure0 rfl rfl rfl (pure_assign rfl) ?_
 refine d_end (fun a w ok => ?_)
 first | (refine WPs.run ?_ a w ok; clear ok w a) | skip
 exact s_ret fun a w ok => ends_k on (.inr rfl) ok (res_tmp Try.results4 rfl)
end Go.Proofs.Ytadginombcjbeaa
