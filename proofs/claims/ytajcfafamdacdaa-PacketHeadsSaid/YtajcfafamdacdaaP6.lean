/- The document's Pad; few frames: walked. -/
import Derived.Test.YtajcfafamdacdaaP5
namespace Go.Proofs.Ytajcfafamdacdaa
open Go.RowKit Go.Vc
set_option linter.unusedVariables false

theorem pFind_none {more : Int} (h : ∀ k : Nat, 1 ≤ k → k ≤ 2048 → 1 + (vsize (k : Int) : Int) + k ≠ more) : pFind more = none := by
  cases hp : pFind more with
  | none => rfl
  | some n =>
    obtain ⟨h1, h2, h3⟩ := fit_in (pFind_in hp)
    obtain ⟨k, rfl⟩ : ∃ k : Nat, n = k := ⟨n.toNat, by omega⟩
    exact absurd h3 (h k (by omega) (by omega))
set_option maxHeartbeats 4000000 in
theorem rpad_P (size : Int) (l : List Fr) (v : Value) (w : World) {Z : Nat → Prop} (hZ : ∀ b, w.heap.size ≤ b → Z b) (hv : FrsC (fun p x => w.cell? p = some x ∧ Z p.block) v l) (hbig : ∀ f ∈ l, f.data.length ≤ maxLen) (hll : l.length ≤ 1000000) :
    GivesP tb 26 [.int .i64 size, v] w Z (PdR size l) := by
  have hv : FrsC (Cz Z ⟨w, [], []⟩) v l := hv.mono fun p x h => cz_start p x h
  obtain ⟨base1, cap1, rfl, hcap1⟩ := hv.slice
  refine givesP_of (fn := Try.f26) Try.func26 rfl Try.ntmps26 rfl hZ (pdR_mono size l) (fun on => ?_)
  repeat refine s_seqs ?_
  refine s_reg ?_
  refine step_pure rfl (pure_assign rfl) ?_
  refine step_pure rfl (pure_assign rfl) ?_
  refine Vc.step_end (fun a w ok => ?_)
  first | (refine WPs.run ?_ a w ok; clear ok w a) | skip
  repeat refine s_seqs ?_
  refine s_reg ?_
  refine step_pure rfl (pure_move rfl) ?_
  refine step_givesP on.sc rfl fun30 rfl (fun w' Z' hh kp hZ hC => rwrite_P l _ w' hZ (hv.mono (Cz.now kp)) hbig) ?_
  rintro u E1 g ⟨v6, rfl, hw⟩
  replace on := on.next g
  replace hv := hv.mono g.cz
  clear g
  refine step_pure rfl (pure_move rfl) ?_
  refine step_pure rfl (pure_extract rfl rfl) ?_
  refine step_pure rfl (pure_extract rfl rfl) ?_
  refine step_pure rfl (pure_assign rfl) ?_
  refine step_pure rfl (pure_assign rfl) ?_
  refine Vc.step_end (fun a w ok => ?_)
  first | (refine WPs.run ?_ a w ok; clear ok w a) | skip
  repeat refine s_seqs ?_
  refine s_reg ?_
  refine step_pure rfl (pure_move rfl) ?_
  refine step_pure rfl (pure_neq rfl rfl) ?_
  refine Vc.step_end (fun a w ok => ?_)
  first | (refine WPs.run ?_ a w ok; clear ok w a) | skip
  cases hok : wrOk l with
  | false =>
    repeat refine s_seqs ?_
    refine s_cond_yes rfl rfl ?_
    repeat refine s_seqs ?_
    refine s_reg ?_
    refine step_pure rfl (pure_assign rfl) ?_
    refine step_pure rfl (pure_assign rfl) ?_
    refine Vc.step_end (fun a w ok => ?_)
    first | (refine WPs.run ?_ a w ok; clear ok w a) | skip
    exact s_ret fun a w ok => ends_givesP on (.inr rfl) ok (res_tmp2 Try.results26 rfl rfl) (pdR_mono size l) (pdR_no (pPad_bad hok))
  | true =>
  repeat refine s_seqs ?_
  refine s_cond_no rfl rfl ?_
  refine s_skip fun a w ok => WPs.run ?_ a w ok
  clear ok w a
  obtain ⟨base6, cap6, rfl, hcap6⟩ := slc_str hw
  have hBl := wBs_le l
  have h16 := (wrOk_in hok).1
  obtain ⟨css, hc1, hc2, hc3⟩ := id hv
  have hone := css_one hc1 hc2
  have hcl := css_len hc1 hc2
  repeat refine s_seqs ?_
  refine s_reg ?_
  refine step_buildSlice0 rfl rfl rfl rfl (fun b17 => ?_)
  refine step_pure rfl (pure_move rfl) ?_
  refine step_append 0 rfl rfl (sl_empty ty52 52 b17) rfl rfl rfl rfl rfl elem52 rfl (by decide) rfl rfl hcl (src_slc (fun w' hh kp => hc3.mono (Cz.now kp))) hone (by omega) (by show _ * 72 ≤ _; omega) (fun base8 cap8 e8 hs8 => ?_)
  rw [Nat.zero_add, List.nil_append] at hs8
  rw [Nat.zero_add]
  refine step_pure rfl (pure_assign rfl) ?_
  refine Vc.step_end (fun a w ok => ?_)
  first | (refine WPs.run ?_ a w ok; clear ok w a) | skip
  repeat refine s_seqs ?_
  refine s_reg ?_
  refine step_pure rfl (pure_move rfl) ?_
  refine step_pure rfl (pure_len_slice rfl rfl rfl) ?_
  refine step_pure rfl (pure_move rfl) ?_
  refine step_pure rfl (pure_eql rfl rfl) ?_
  refine Vc.step_end (fun a w ok => ?_)
  first | (refine WPs.run ?_ a w ok; clear ok w a) | skip
  repeat refine s_seqs ?_
  refine s_cond rfl (fun h => ?_) (fun h => ?_)
  · have hsz : ((wBs l).length : Int) = size := by simpa using h
    repeat refine s_seqs ?_
    refine s_reg ?_
    refine step_pure rfl (pure_move rfl) ?_
    refine step_pure rfl (pure_assign rfl) ?_
    refine step_pure rfl (pure_assign rfl) ?_
    refine Vc.step_end (fun a w ok => ?_)
    first | (refine WPs.run ?_ a w ok; clear ok w a) | skip
    refine s_let 0 rfl (fun E5 g5 hc => ?_)
    refine s_ret fun a w ok => ends_givesP (on.next g5) (.inr rfl) ok (res_tmp2 Try.results26 rfl rfl) (pdR_mono size l) (pdR_yes (pPad_same hok hsz) ?_)
    exact frs_cloned hc1 (fun i f cs h1 h2 => (hc2 i f cs h1 h2).mono g5.cz) hs8 (hc _ on.sc)
  have hsz : ((wBs l).length : Int) ≠ size := by simpa using h
  clear h
  refine s_skip fun a w ok => WPs.run ?_ a w ok
  clear ok w a
  have hfind := pPad_find hok hsz
  have hfull := pPad_full hok hsz
  generalize hL : (wBs l).length = L at *
  repeat refine s_seqs ?_
  refine s_reg ?_
  refine step_pure rfl (pure_assign rfl) ?_
  refine Vc.step_end (fun a w ok => ?_)
  first | (refine WPs.run ?_ a w ok; clear ok w a) | skip
  repeat refine s_seqs ?_
  refine s_block ?_
  repeat refine s_seqs ?_
  refine s_loopP (α := Nat) (fun n => [(0, .int .i64 size), (1, .slice base1 l.length cap1), (6, .slice base6 L cap6), (8, .slice base8 l.length cap8), (9, .int .i64 n)]) (fun _ => [e8])
    (fun n _ => 1 ≤ n ∧ n ≤ 2049 ∧ ∀ k, 1 ≤ k → k < n → 1 + (vsize (k : Int) : Int) + k ≠ size - L) (fun n => 2049 - n) 1 ⟨Nat.le_refl _, by decide, fun k h1 h2 => by omega⟩ (less_sub ⟨rfl, rfl, rfl, rfl, rfl, trivial⟩ (by repeat (first | exact List.Sublist.refl _ | exact List.nil_sublist _ | apply List.Sublist.cons_cons | apply List.Sublist.cons))) ?_
  rintro n E2 ⟨hn1, hn2, hall⟩ g
  replace on := on.next g
  replace hc2 := fun i f cs h1 h2 => (hc2 i f cs h1 h2).mono g.cz
  clear g hw hv hc3
  repeat refine s_seqs ?_
  refine s_meet [(0, .int .i64 size), (1, .slice base1 l.length cap1), (6, .slice base6 L cap6), (8, .slice base8 l.length cap8), (9, .int .i64 n), (31, .bool (decide (n ≤ 2048 ∧ l.length < 16)))] [e8] ?_ (fun a w ok => WPs.run ?_ a w ok)
  · clear hs8 hc2 hc1 hcl
    generalize l.length = q at *
    repeat refine c_seq ?_
    refine c_region ?_
    refine step_pure rfl (pure_move rfl) ?_
    refine step_pure rfl (pure_leq rfl rfl) ?_
    refine step_pure rfl (pure_move rfl) ?_
    refine step_split (t := 27) rfl (fun h27 => ?_) (fun h27 => ?_)
    · refine step_pure rfl (pure_move rfl) ?_
      refine step_pure rfl (pure_len_slice rfl rfl rfl) ?_
      refine step_pure rfl (pure_lss rfl rfl) ?_
      refine step_pure rfl (pure_pick_yes rfl rfl) ?_
      refine step_nil ?_
      refine less_of ⟨rfl, rfl, rfl, rfl, rfl, ?_, trivial⟩ rfl
      refine congrArg some (congrArg Value.bool ?_)
      rw [Bool.eq_iff_iff]
      simp_all <;> omega
    · refine step_pass rfl rfl rfl ?_
      refine step_pass rfl rfl rfl ?_
      refine step_pass rfl rfl rfl ?_
      refine step_pure rfl (pure_pick_no rfl rfl) ?_
      refine step_nil ?_
      refine less_of ⟨rfl, rfl, rfl, rfl, rfl, ?_, trivial⟩ rfl
      refine congrArg some (congrArg Value.bool ?_)
      rw [Bool.eq_iff_iff]
      simp_all <;> omega
  repeat refine s_seqs ?_
  refine s_cond rfl (fun h => ?_) (fun h => ?_)
  · have hlt : n ≤ 2048 ∧ l.length < 16 := of_decide_eq_true h
    clear h
    refine s_skip fun a w ok => WPs.run ?_ a w ok
    clear ok w a
    repeat refine s_seqs ?_
    refine s_block ?_
    have hv8 := vsize_cases n
    have hfind := hfind (by omega)
    repeat refine s_seqs ?_
    refine s_reg ?_
    refine step_pure rfl (pure_move rfl) ?_
    refine step_pure rfl (pure_len_slice rfl rfl rfl) ?_
    first | refine step_pure rfl (pure_add64 rfl rfl (by omega) (by omega)) ?_ | refine step_pure rfl (pure_add rfl rfl) ?_
    refine step_pure rfl (pure_move rfl) ?_
    refine step_gives rfl fun32 rfl (fun w _ _ => rsize_any n w) ?_
    first | refine step_pure rfl (pure_add64 rfl rfl (by omega) (by omega)) ?_ | refine step_pure rfl (pure_add rfl rfl) ?_
    refine step_pure rfl (pure_move rfl) ?_
    first | refine step_pure rfl (pure_add64 rfl rfl (by omega) (by omega)) ?_ | refine step_pure rfl (pure_add rfl rfl) ?_
    refine step_pure rfl (pure_move rfl) ?_
    refine step_pure rfl (pure_eql rfl rfl) ?_
    refine Vc.step_end (fun a w ok => ?_)
    first | (refine WPs.run ?_ a w ok; clear ok w a) | skip
    repeat refine s_seqs ?_
    refine s_cond rfl (fun h => ?_) (fun h => ?_)
    · have hf := pFind_of (fit_of (more := size - L) (n := n) (by omega) (by omega) (by have := of_decide_eq_true (show decide ((L : Int) + 1 + (vsize n : Int) + n = size) = true by simpa using h); omega))
      rw [hf] at hfind
      repeat refine s_seqs ?_
      refine s_reg ?_
      refine step_pure rfl (pure_move rfl) ?_
      refine step_pure rfl (pure_move rfl) ?_
      refine step_pure rfl (pure_build_struct (pl := [(0, 1), (1, 1), (2, 1), (3, 1), (4, 1)]) rfl zero52 rfl rfl rfl rfl) ?_
      refine step_buildSlice rfl rfl rfl rfl elem52 (by decide) (by decide) (fill_fr _ _ _ _ _) (fun b47 => ?_)
      refine step_append 1 rfl rfl hs8 rfl rfl rfl rfl rfl elem52 rfl (by decide) rfl rfl rfl (src_own (j := 0) (sl_built ty52 52 b47 (padCells n) 1 rfl) rfl) (pad_one _) (by omega) (by show _ * 72 ≤ _; omega) (fun base9 cap9 e9 hs9 => ?_)
      refine step_pure rfl (pure_assign rfl) ?_
      refine step_pure rfl (pure_assign rfl) ?_
      refine Vc.step_end (fun a w ok => ?_)
      first | (refine WPs.run ?_ a w ok; clear ok w a) | skip
      refine s_let 1 rfl (fun E5 g5 hc => ?_)
      refine s_ret fun a w ok => ends_givesP (on.next g5) (.inr rfl) ok (res_tmp2 Try.results26 rfl rfl) (pdR_mono size l) (pdR_yes hfind ?_)
      exact frs_padded hc1 (fun i f cs h1 h2 => (hc2 i f cs h1 h2).mono g5.cz) rfl hs9 (hc _ on.sc)
    · have hne : ¬ (L : Int) + 1 + (vsize n : Int) + n = size := by simpa using h
      refine s_skip fun a w ok => WPs.run ?_ a w ok
      clear ok w a
      repeat refine s_seqs ?_
      refine s_reg ?_
      refine step_pure rfl (pure_move rfl) ?_
      first | refine step_pure rfl (pure_add64 rfl rfl (by omega) (by omega)) ?_ | refine step_pure rfl (pure_add rfl rfl) ?_
      refine step_pure rfl (pure_assign rfl) ?_
      refine Vc.step_end (fun a w ok => ?_)
      refine ⟨n + 1, E2, ⟨by omega, by omega, fun j h1 h2 => ?_⟩, by omega, Gt.refl _, Less.ok ?_ ok⟩
      · by_cases hji : j = n
        · rw [hji]; omega
        · exact hall j h1 (by omega)
      exact less_of ⟨rfl, rfl, rfl, rfl, rfl, trivial⟩ rfl
  · have hno : pPad size l = none := by
      have h := of_decide_eq_false h
      by_cases h2 : l.length = 16
      · exact hfull h2
      · rw [hfind h2, pFind_none (fun k h1 h3 => hall k h1 (by omega))]
        rfl
    refine s_exit fun a w ok => WPs.run ?_ a w ok
    clear ok w a
    repeat refine s_seqs ?_
    refine s_reg ?_
    refine step_pure rfl (pure_assign rfl) ?_
    refine step_pure rfl (pure_assign rfl) ?_
    refine Vc.step_end (fun a w ok => ?_)
    first | (refine WPs.run ?_ a w ok; clear ok w a) | skip
    exact s_ret fun a w ok => ends_givesP on (.inr rfl) ok (res_tmp2 Try.results26 rfl rfl) (pdR_mono size l) (pdR_no hno)
end Go.Proofs.Ytajcfafamdacdaa
