/- The law PacketSizes, walked. -/
import Derived.Test.YtajcfafamdacdaaP9
namespace Go.Proofs.Ytajcfafamdacdaa
open Go.RowKit Go.Vc
set_option linter.unusedVariables false

theorem pPad_more {size : Int} {l k : List Fr} (hok : wrOk l = true) (hne : ((wBs l).length : Int) ≠ size) (h16 : l.length ≤ 15) (h : pPad size l = some k) :
    ∃ n, k = l ++ [padN n] ∧ wrOk k = true ∧ ((wBs k).length : Int) = size ∧ (wBs k).take (wBs l).length = wBs l := by
  rw [pPad_find hok hne (by omega)] at h
  cases hf : pFind (size - (wBs l).length) with
  | none => rw [hf] at h; cases h
  | some n =>
    rw [hf] at h
    have hk : k = l ++ [padN n] := (Option.some.inj h).symm
    obtain ⟨h1, h2, h3⟩ := fit_in (pFind_in hf)
    have hwk : wrOk k = true := by
      rw [hk, wrOk_app, hok, wrPad, decide_eq_true h1, decide_eq_true h2, Bool.true_and, Bool.true_and, Bool.true_and]
      exact decide_eq_true (by show l.length + 1 ≤ 16; omega)
    have hwb : wBs k = wBs l ++ fbytes (padN n) := by
      rw [wBs_ok hwk, wBs_ok hok, hk, List.flatMap_append, List.flatMap_cons, List.flatMap_nil, List.append_nil]
    have hpl := pad_len h1 h2
    refine ⟨n, hk, hwk, ?_, ?_⟩
    · rw [hwb, List.length_append]
      omega
    · rw [hwb, List.take_left]
theorem pFind_is {q : Int} (h1 : 3 ≤ q) (h2 : q ≤ 2003) (h3 : q ≠ 66) : ∃ n, pFind q = some n := by
  by_cases h : q ≤ 65
  · refine ⟨q - 2, pFind_of (fit_of (by omega) (by omega) ?_)⟩
    have := vsize_cases (q - 2)
    omega
  · refine ⟨q - 3, pFind_of (fit_of (by omega) (by omega) ?_)⟩
    have := vsize_cases (q - 3)
    omega
theorem pPad_is {size : Int} {l : List Fr} (hok : wrOk l = true) (h16 : l.length ≤ 15) (h1 : ((wBs l).length : Int) + 3 ≤ size) (h2 : size ≤ (wBs l).length + 2003) (h3 : size ≠ (wBs l).length + 66) : ∃ k, pPad size l = some k := by
  obtain ⟨n, hn⟩ := pFind_is (q := size - (wBs l).length) (by omega) (by omega) (by omega)
  rw [pPad_find hok (by omega) (by omega), hn]
  exact ⟨_, rfl⟩
theorem asks_pad (n : Int) : asks (padN n) = false := by rw [asks_eq]; show (fok (padN n) && false) = false; simp
theorem pasks_pad {l k : List Fr} {n : Int} (hl : wrOk l = true) (hk : wrOk k = true) (h : k = l ++ [padN n]) : pasks ⟨0, 0, l⟩ = pasks ⟨0, 0, k⟩ := by
  have h0 : hOk 0 0 = true := by decide
  have ha : k.any asks = l.any asks := by rw [h, List.any_append, List.any_cons, List.any_nil, asks_pad]; simp
  have hkl : k.length ≠ 0 := by rw [h]; simp
  unfold pasks pOk
  show (hOk 0 0 && (wrOk l && l.length != 0) && l.any asks) = (hOk 0 0 && (wrOk k && k.length != 0) && k.any asks)
  rw [h0, hl, hk, ha]
  cases l with
  | nil => simp
  | cons f l => simp [hkl]
/-- What is known of a padding. -/
def PadIs (size : Int) (l ks : List Fr) (c : Int) : Prop := (c = 30 ∧ ks = []) ∨ (c = 0 ∧ ∃ n, ks = l ++ [padN n] ∧ wrOk ks = true ∧ ((wBs ks).length : Int) = size ∧ (wBs ks).take (wBs l).length = wBs l)
theorem pad_is {size : Int} {l : List Fr} (hok : wrOk l = true) (hne : ((wBs l).length : Int) ≠ size) (h16 : l.length ≤ 15) : PadIs size l ((pPad size l).getD []) (if (pPad size l).isSome = true then 0 else 30) := by
  cases h : pPad size l with
  | none => exact .inl ⟨rfl, rfl⟩
  | some k => exact .inr ⟨rfl, pPad_more hok hne h16 h⟩
set_option maxHeartbeats 8000000 in
theorem packetsizes_any (l : List Fr) (v : Value) (more : Int) (w0 : World) (hv : FrsC (At w0) v l) (hbig0 : ∀ f ∈ l, f.data.length ≤ maxLen) (hm : 0 ≤ more ∧ more < 65536) : Gives tb 7 [v, .int .u16 more] w0 (.bool true) := by
  obtain ⟨base1, cap1, rfl, hcap1⟩ := hv.slice
  have hcw : IntKind.i64.wrap more = more := wrap_i64 (by omega) (by omega)
  refine gives_ofk (fn := Try.f7) Try.func7 rfl Try.ntmps7 rfl (fun on => ?_)
  have hv : FrsC (Cz (fun _ => True) ⟨w0, [], []⟩) (.slice base1 l.length cap1) l := hv.mono fun p x h => cz_start p x ⟨h, trivial⟩
  have hbigp : ∀ f ∈ l, f.data.length ≤ maxLen := hbig0
  repeat refine s_seqs ?_
  refine s_reg ?_
  refine step_pure rfl (pure_assign rfl) ?_
  refine Vc.step_end (fun a w ok => ?_)
  first | (refine WPs.run ?_ a w ok; clear ok w a) | skip
  repeat refine s_seqs ?_
  refine s_reg ?_
  refine step_gives rfl fun10 rfl (fun w _ _ => awake_any w) ?_
  refine step_pure rfl (pure_assign rfl) ?_
  refine Vc.step_end (fun a w ok => ?_)
  first | (refine WPs.run ?_ a w ok; clear ok w a) | skip
  repeat refine s_seqs ?_
  refine s_reg ?_
  refine step_pure rfl (pure_move rfl) ?_
  refine step_givesP on.sc rfl fun28 rfl (fun w' Z' hh kp hZ hC => write_P l _ w' hZ (hv.mono (Cz.now kp)) hbigp) ?_
  rintro u E2 g ⟨v6, rfl, hw6⟩
  replace on := on.next g
  replace hv := hv.mono g.cz
  clear g
  refine step_pure rfl (pure_move rfl) ?_
  refine step_pure rfl (pure_extract rfl rfl) ?_
  refine step_pure rfl (pure_extract rfl rfl) ?_
  refine step_pure rfl (pure_assign rfl) ?_
  refine step_pure rfl (pure_assign rfl) ?_
  refine Vc.step_end (fun a w ok => ?_)
  first | (refine WPs.run ?_ a w ok; clear ok w a) | skip
  obtain ⟨base6, cap6, rfl, hcap6⟩ := slc_str hw6
  repeat refine s_seqs ?_
  refine s_meet [(0, .slice base1 l.length cap1), (1, .int .u16 more), (5, .bool true), (6, .slice base6 (wBs l).length cap6), (39, .bool (!(fewB l && (decide (l.length ≤ 15) && (decide ((wBs l).length ≤ 3000) && wrOk l)))))] [] ?_ (fun a w ok => WPs.run ?_ a w ok)
  · have hfa := fun w' (kp : Keep E2.w0 w' E2.ws) => few_any l _ w' (hv.mono (Cz.now kp))
    clear hv hw6 hbigp on
    generalize fewB l = fa at *
    generalize l.length = q at *
    generalize (wBs l).length = r at *
    generalize wrOk l = wk at *
    repeat refine c_seq ?_
    refine c_region ?_
    refine step_pure rfl (pure_move rfl) ?_
    refine step_gives rfl fun11 rfl (fun w' hh kp => hfa w' kp) ?_
    refine step_pure rfl (pure_not rfl) ?_
    refine step_pure rfl (pure_move rfl) ?_
    refine step_split (t := 26) rfl (fun h26 => ?_) (fun h26 => ?_)
    · refine step_pass rfl rfl rfl ?_
      refine step_pass rfl rfl rfl ?_
      refine step_pass rfl rfl rfl ?_
      refine step_pure rfl (pure_pick_yes rfl rfl) ?_
      refine step_pure rfl (pure_move rfl) ?_
      refine step_pass rfl rfl rfl ?_
      refine step_pass rfl rfl rfl ?_
      refine step_pass rfl rfl rfl ?_
      refine step_pure rfl (pure_pick_yes rfl rfl) ?_
      refine step_pure rfl (pure_move rfl) ?_
      refine step_pass rfl rfl rfl ?_
      refine step_pass rfl rfl rfl ?_
      refine step_pure rfl (pure_pick_yes rfl rfl) ?_
      refine step_nil ?_
      refine less_of ⟨rfl, rfl, rfl, rfl, ?_, trivial⟩ rfl
      refine congrArg some (congrArg Value.bool ?_)
      clear hfa
      cases wk <;> simp_all <;> omega
    · refine step_pure rfl (pure_move rfl) ?_
      refine step_pure rfl (pure_len_slice rfl rfl rfl) ?_
      refine step_pure rfl (pure_gtr rfl rfl) ?_
      refine step_pure rfl (pure_pick_no rfl rfl) ?_
      refine step_pure rfl (pure_move rfl) ?_
      refine step_split (t := 31) rfl (fun h31 => ?_) (fun h31 => ?_)
      · refine step_pass rfl rfl rfl ?_
        refine step_pass rfl rfl rfl ?_
        refine step_pass rfl rfl rfl ?_
        refine step_pure rfl (pure_pick_yes rfl rfl) ?_
        refine step_pure rfl (pure_move rfl) ?_
        refine step_pass rfl rfl rfl ?_
        refine step_pass rfl rfl rfl ?_
        refine step_pure rfl (pure_pick_yes rfl rfl) ?_
        refine step_nil ?_
        refine less_of ⟨rfl, rfl, rfl, rfl, ?_, trivial⟩ rfl
        refine congrArg some (congrArg Value.bool ?_)
        clear hfa
        cases wk <;> simp_all <;> omega
      · refine step_pure rfl (pure_move rfl) ?_
        refine step_pure rfl (pure_len_slice rfl rfl rfl) ?_
        refine step_pure rfl (pure_gtr rfl rfl) ?_
        refine step_pure rfl (pure_pick_no rfl rfl) ?_
        refine step_pure rfl (pure_move rfl) ?_
        refine step_split (t := 36) rfl (fun h36 => ?_) (fun h36 => ?_)
        · refine step_pass rfl rfl rfl ?_
          refine step_pass rfl rfl rfl ?_
          refine step_pure rfl (pure_pick_yes rfl rfl) ?_
          refine step_nil ?_
          refine less_of ⟨rfl, rfl, rfl, rfl, ?_, trivial⟩ rfl
          refine congrArg some (congrArg Value.bool ?_)
          clear hfa
          cases wk <;> simp_all <;> omega
        · refine step_pure rfl (pure_move rfl) ?_
          refine step_pure rfl (pure_neq rfl rfl) ?_
          refine step_pure rfl (pure_pick_no rfl rfl) ?_
          refine step_nil ?_
          refine less_of ⟨rfl, rfl, rfl, rfl, ?_, trivial⟩ rfl
          refine congrArg some (congrArg Value.bool ?_)
          clear hfa
          cases wk <;> simp_all <;> omega
  repeat refine s_seqs ?_
  refine s_cond rfl (fun h => ?_) (fun h => ?_)
  · repeat refine s_seqs ?_
    refine s_reg ?_
    refine step_pure rfl (pure_move rfl) ?_
    refine step_pure rfl (pure_assign rfl) ?_
    refine Vc.step_end (fun a w ok => ?_)
    first | (refine WPs.run ?_ a w ok; clear ok w a) | skip
    exact s_ret fun a w ok => ends_k on (.inr rfl) ok (res_tmp Try.results7 rfl)
  have hh2 : fewB l = true ∧ l.length ≤ 15 ∧ (wBs l).length ≤ 3000 ∧ wrOk l = true := by simpa using h
  obtain ⟨hfew, h15, hb3, hok⟩ := hh2
  obtain ⟨hbig, hle, h30, hrl⟩ := few_big hfew
  clear h
  refine s_skip fun a w ok => WPs.run ?_ a w ok
  clear ok w a
  obtain ⟨size, hsize, hs1, hs2⟩ : ∃ size : Int, ((wBs l).length : Int) + 3 + more % 2000 = size ∧ ((wBs l).length : Int) + 3 ≤ size ∧ size ≤ (wBs l).length + 2002 := ⟨_, rfl, by omega, by omega⟩
  have hx := pad_is (size := size) hok (by omega) h15
  have hy := pad_is (size := size + 1) hok (by omega) h15
  have hor : (∃ k, pPad size l = some k) ∨ (∃ k, pPad (size + 1) l = some k) := by
    by_cases h66 : size = (wBs l).length + 66
    · exact .inr (pPad_is hok h15 (by omega) (by omega) (by omega))
    · exact .inl (pPad_is hok h15 (by omega) (by omega) (by omega))
  repeat refine s_seqs ?_
  refine s_reg ?_
  refine step_pure rfl (pure_move rfl) ?_
  refine step_pure rfl (pure_len_slice rfl rfl rfl) ?_
  first | refine step_pure rfl (pure_add64 rfl rfl (by omega) (by omega)) ?_ | refine step_pure rfl (pure_add rfl rfl) ?_
  refine step_pure rfl (pure_move rfl) ?_
  refine step_as rfl (pure_conv rfl rfl rfl rfl) (show _ = Value.int .i64 more from by rw [hcw]) ?_
  refine step_pure rfl (pure_rem_pos rfl rfl (by omega) (by decide)) ?_
  refine step_as rfl (pure_add64 rfl rfl (by omega) (by omega)) (show _ = Value.int .i64 size from by rw [hsize]) ?_
  refine step_pure rfl (pure_assign rfl) ?_
  refine Vc.step_end (fun a w ok => ?_)
  first | (refine WPs.run ?_ a w ok; clear ok w a) | skip
  repeat refine s_seqs ?_
  refine s_reg ?_
  refine step_pure rfl (pure_move rfl) ?_
  refine step_pure rfl (pure_move rfl) ?_
  refine step_givesP on.sc rfl fun25 rfl (fun w' Z' hh kp hZ hC => pad_P size l _ w' hZ (hv.mono hC) hbig) ?_
  rintro u E3 g ⟨v9, rfl, hr9⟩
  replace on := on.next g
  replace hv := hv.mono g.cz
  replace hw6 := hw6.mono g.cz
  clear g
  refine step_pure rfl (pure_move rfl) ?_
  refine step_pure rfl (pure_extract rfl rfl) ?_
  refine step_pure rfl (pure_extract rfl rfl) ?_
  refine step_pure rfl (pure_assign rfl) ?_
  refine step_pure rfl (pure_assign rfl) ?_
  refine Vc.step_end (fun a w ok => ?_)
  first | (refine WPs.run ?_ a w ok; clear ok w a) | skip
  repeat refine s_seqs ?_
  refine s_reg ?_
  refine step_pure rfl (pure_move rfl) ?_
  first | refine step_pure rfl (pure_add64 rfl rfl (by omega) (by omega)) ?_ | refine step_pure rfl (pure_add rfl rfl) ?_
  refine step_pure rfl (pure_move rfl) ?_
  refine step_givesP on.sc rfl fun25 rfl (fun w' Z' hh kp hZ hC => pad_P (size + 1) l _ w' hZ (hv.mono hC) hbig) ?_
  rintro u E4 g ⟨v11, rfl, hr11⟩
  replace on := on.next g
  replace hv := hv.mono g.cz
  replace hw6 := hw6.mono g.cz
  replace hr9 := hr9.mono g.cz
  clear g
  refine step_pure rfl (pure_move rfl) ?_
  refine step_pure rfl (pure_extract rfl rfl) ?_
  refine step_pure rfl (pure_extract rfl rfl) ?_
  refine step_pure rfl (pure_assign rfl) ?_
  refine step_pure rfl (pure_assign rfl) ?_
  refine Vc.step_end (fun a w ok => ?_)
  first | (refine WPs.run ?_ a w ok; clear ok w a) | skip
  have hor2 : (if (pPad size l).isSome = true then (0 : Int) else 30) = 0 ∨ (if (pPad (size + 1) l).isSome = true then (0 : Int) else 30) = 0 := by
    rcases hor with ⟨k, hk⟩ | ⟨k, hk⟩
    · exact .inl (by rw [hk]; rfl)
    · exact .inr (by rw [hk]; rfl)
  clear hor
  generalize (if (pPad size l).isSome = true then (0 : Int) else 30) = cx at *
  generalize (if (pPad (size + 1) l).isSome = true then (0 : Int) else 30) = cy at *
  generalize (pPad size l).getD [] = ks at *
  generalize (pPad (size + 1) l).getD [] = ls at *
  have hkbig : ∀ f ∈ ks, f.data.length ≤ maxLen := by
    rcases hx with ⟨-, rfl⟩ | ⟨-, n, -, hwk, -⟩
    · intro f hf; cases hf
    · exact fun f hf => (wrOk_big hwk f hf).1
  have hkle : ks.length ≤ maxLen := by
    have : 17 ≤ maxLen := by decide
    rcases hx with ⟨-, rfl⟩ | ⟨-, n, -, hwk, -⟩
    · exact Nat.zero_le _
    · have := (wrOk_in hwk).1; omega
  repeat refine s_seqs ?_
  refine s_reg ?_
  refine step_pure rfl (pure_move rfl) ?_
  refine step_givesP on.sc rfl fun28 rfl (fun w' Z' hh kp hZ hC => write_P ks _ w' hZ (hr9.mono (Cz.now kp)) hkbig) ?_
  rintro u E5 g ⟨v13, rfl, hw13⟩
  replace on := on.next g
  replace hv := hv.mono g.cz
  replace hw6 := hw6.mono g.cz
  replace hr9 := hr9.mono g.cz
  replace hr11 := hr11.mono g.cz
  clear g
  refine step_pure rfl (pure_move rfl) ?_
  refine step_pure rfl (pure_extract rfl rfl) ?_
  refine step_pure rfl (pure_extract rfl rfl) ?_
  refine step_pure rfl (pure_assign rfl) ?_
  refine step_pure rfl (pure_assign rfl) ?_
  refine Vc.step_end (fun a w ok => ?_)
  first | (refine WPs.run ?_ a w ok; clear ok w a) | skip
  obtain ⟨base9, cap9, rfl, hcap9⟩ := hr9.slice
  obtain ⟨base11, cap11, rfl, hcap11⟩ := hr11.slice
  obtain ⟨base13, cap13, rfl, hcap13⟩ := slc_str hw13
  repeat refine s_seqs ?_
  refine s_meet [(0, .slice base1 l.length cap1), (5, .bool true), (9, .slice base9 ks.length cap9), (10, .int .i64 cx), (11, .slice base11 ls.length cap11), (12, .int .i64 cy), (95, .bool false)] [] ?_ (fun a w ok => WPs.run ?_ a w ok)
  · rcases hx with ⟨rfl, rfl⟩ | ⟨rfl, n, hk, hwk, hkl, hkt⟩
    · repeat refine c_seq ?_
      refine d_region2 [1, 9, 17, 25, 33, 41, 49, 57, 65, 73, 81, 89, 97, 105, 113, 121, 129, 137, 145, 153, 161, 169, 177, 185, 195, 201, 211, 217, 225, 233] ([]) follows (by kernel_rfl) ?_
      refine d_pure0 rfl rfl rfl (pure_move rfl) ?_
      refine d_pure0 rfl rfl rfl (pure_eql rfl rfl) ?_
      refine d_pure0 rfl rfl rfl (pure_move rfl) ?_
      refine d_pass rfl rfl rfl (fun h => by cases h) rfl rfl rfl ?_
      refine d_pass rfl rfl rfl (fun h => by cases h) rfl rfl rfl ?_
      refine d_pass rfl rfl rfl (fun h => by cases h) rfl rfl rfl ?_
      refine d_pass rfl rfl rfl (fun h => by cases h) rfl rfl rfl ?_
      refine d_pass rfl rfl rfl (fun h => by cases h) rfl rfl rfl ?_
      refine d_pass rfl rfl rfl (fun h => by cases h) rfl rfl rfl ?_
      refine d_pass rfl rfl rfl (fun h => by cases h) rfl rfl rfl ?_
      refine d_pass rfl rfl rfl (fun h => by cases h) rfl rfl rfl ?_
      refine d_pass rfl rfl rfl (fun h => by cases h) rfl rfl rfl ?_
      refine d_pass rfl rfl rfl (fun h => by cases h) rfl rfl rfl ?_
      refine d_pass rfl rfl rfl (fun h => by cases h) rfl rfl rfl ?_
      refine d_pass rfl rfl rfl (fun h => by cases h) rfl rfl rfl ?_
      refine d_pass rfl rfl rfl (fun h => by cases h) rfl rfl rfl ?_
      refine d_pass rfl rfl rfl (fun h => by cases h) rfl rfl rfl ?_
      refine d_pass rfl rfl rfl (fun h => by cases h) rfl rfl rfl ?_
      refine d_pass rfl rfl rfl (fun h => by cases h) rfl rfl rfl ?_
      refine d_pass rfl rfl rfl (fun h => by cases h) rfl rfl rfl ?_
      refine d_pass rfl rfl rfl (fun h => by cases h) rfl rfl rfl ?_
      refine d_pass rfl rfl rfl (fun h => by cases h) rfl rfl rfl ?_
      refine d_pass rfl rfl rfl (fun h => by cases h) rfl rfl rfl ?_
      refine d_pass rfl rfl rfl (fun h => by cases h) rfl rfl rfl ?_
      refine d_pass rfl rfl rfl (fun _ => (by first | exact SubMem.refl _ | exact (SubMem.refl _).cons | exact (SubMem.refl _).cons.cons | exact (SubMem.refl _).cons.cons.cons | exact (SubMem.refl _).cons.cons.cons.cons | exact (fun w hh => Has.sublist (by repeat (first | exact List.Sublist.refl _ | exact List.nil_sublist _ | apply List.Sublist.cons_cons | apply List.Sublist.cons)) hh))) rfl rfl rfl ?_
      refine d_pass rfl rfl rfl (fun h => by cases h) rfl rfl rfl ?_
      refine d_pass rfl rfl rfl (fun _ => (by first | exact SubMem.refl _ | exact (SubMem.refl _).cons | exact (SubMem.refl _).cons.cons | exact (SubMem.refl _).cons.cons.cons | exact (SubMem.refl _).cons.cons.cons.cons | exact (fun w hh => Has.sublist (by repeat (first | exact List.Sublist.refl _ | exact List.nil_sublist _ | apply List.Sublist.cons_cons | apply List.Sublist.cons)) hh))) rfl rfl rfl ?_
      refine d_pass rfl rfl rfl (fun h => by cases h) rfl rfl rfl ?_
      refine d_pass rfl rfl rfl (fun h => by cases h) rfl rfl rfl ?_
      refine d_pure0 rfl rfl rfl (pure_pick_no rfl rfl) ?_
      refine d_nil ?_
      exact less_sub ⟨rfl, rfl, rfl, rfl, rfl, rfl, rfl, trivial⟩ (by repeat (first | exact List.Sublist.refl _ | exact List.nil_sublist _ | apply List.Sublist.cons_cons | apply List.Sublist.cons))
    · have hlen : ks.length = l.length + 1 := by rw [hk, List.length_append, List.length_singleton]
      have hlk : (wBs l).length ≤ (wBs ks).length := by omega
      have hsub := slc_sub (lo := 0) (hi := (wBs l).length) hw13 (Nat.zero_le _) hlk
      rw [Nat.zero_mul, List.drop_zero, Nat.sub_zero, Nat.mul_one, show (row (wBs ks)).take (wBs l).length = row ((wBs ks).take (wBs l).length) from (List.map_take ..).symm, hkt] at hsub
      rw [if_pos hwk]
      generalize wBs ks = K at *
      generalize wBs l = L at *
      repeat refine c_seq ?_
      refine d_region2 [1, 9, 17, 25, 33, 41, 49, 57, 65, 73, 81, 89, 97, 105, 113, 121, 129, 137, 145, 153, 161, 169, 177, 185, 195, 201, 211, 217, 225, 233] ([]) follows (by kernel_rfl) ?_
      refine d_pure0 rfl rfl rfl (pure_move rfl) ?_
      refine d_pure0 rfl rfl rfl (pure_eql rfl rfl) ?_
      refine d_pure0 rfl rfl rfl (pure_move rfl) ?_
      refine d_pure0 rfl rfl rfl (pure_move rfl) ?_
      refine d_as0 rfl rfl rfl (pure_neq rfl rfl) (show _ = Value.bool false from rfl) ?_
      refine d_pure0 rfl rfl rfl (pure_move rfl) ?_
      refine d_pure0 rfl rfl rfl (pure_move rfl) ?_
      refine d_pure0 rfl rfl rfl (pure_len_slice rfl rfl rfl) ?_
      refine d_pure0 rfl rfl rfl (pure_move rfl) ?_
      refine d_as0 rfl rfl rfl (pure_neq rfl rfl) (show _ = Value.bool false from by rw [hkl, bne_self_eq_false]) ?_
      refine d_pure0 rfl rfl rfl (pure_pick_no rfl rfl) ?_
      refine d_pure0 rfl rfl rfl (pure_move rfl) ?_
      refine d_pure0 rfl rfl rfl (pure_move rfl) ?_
      refine d_pure0 rfl rfl rfl (pure_len_slice rfl rfl rfl) ?_
      refine d_pure0 rfl rfl rfl (pure_move rfl) ?_
      refine d_pure0 rfl rfl rfl (pure_len_slice rfl rfl rfl) ?_
      first | refine d_pure0 rfl rfl rfl (pure_add64 rfl rfl (by omega) (by omega)) ?_ | refine d_pure0 rfl rfl rfl (pure_add rfl rfl) ?_
      refine d_as0 rfl rfl rfl (pure_neq rfl rfl) (show _ = Value.bool false from by rw [hlen]; show Value.bool (((l.length + 1 : Nat) : Int) != ((l.length : Int) + 1)) = _; rw [show (((l.length + 1 : Nat) : Int)) = ((l.length : Int) + 1) from rfl, bne_self_eq_false]) ?_
      refine d_pure0 rfl rfl rfl (pure_pick_no rfl rfl) ?_
      refine d_pure0 rfl rfl rfl (pure_move rfl) ?_
      refine d_pure0 rfl rfl rfl (pure_move rfl) ?_
      refine d_pure0 rfl rfl rfl (pure_move rfl) ?_
      refine d_pure0 rfl rfl rfl (pure_len_slice rfl rfl rfl) ?_
      refine d_as0 rfl rfl rfl (pure_sub_hi rfl rfl rfl rfl rfl (by omega) (by omega)) (show _ = subS base13 cap13 1 0 L.length from by show subS base13 cap13 1 0 (L.length : Int).toNat = _; rw [Int.toNat_natCast]) ?_
      refine d_pure1 rfl rfl rfl (pure_cz_string rfl rfl rfl rfl rfl rfl rfl hsub) (by first | exact SubMem.refl _ | exact (SubMem.refl _).cons | exact (SubMem.refl _).cons.cons | exact (SubMem.refl _).cons.cons.cons | exact (SubMem.refl _).cons.cons.cons.cons | exact (fun w hh => Has.sublist (by repeat (first | exact List.Sublist.refl _ | exact List.nil_sublist _ | apply List.Sublist.cons_cons | apply List.Sublist.cons)) hh)) ?_
      refine d_pure0 rfl rfl rfl (pure_move rfl) ?_
      refine d_pure1 rfl rfl rfl (pure_cz_string rfl rfl rfl rfl rfl rfl rfl hw6) (by first | exact SubMem.refl _ | exact (SubMem.refl _).cons | exact (SubMem.refl _).cons.cons | exact (SubMem.refl _).cons.cons.cons | exact (SubMem.refl _).cons.cons.cons.cons | exact (fun w hh => Has.sublist (by repeat (first | exact List.Sublist.refl _ | exact List.nil_sublist _ | apply List.Sublist.cons_cons | apply List.Sublist.cons)) hh)) ?_
      refine d_as0 rfl rfl rfl (pure_str_neq rfl rfl) (show _ = Value.bool false from by rw [beq_self_eq_true]; rfl) ?_
      refine d_pure0 rfl rfl rfl (pure_pick_no rfl rfl) ?_
      refine d_pure0 rfl rfl rfl (pure_pick_yes rfl rfl) ?_
      refine d_nil ?_
      exact less_sub ⟨rfl, rfl, rfl, rfl, rfl, rfl, rfl, trivial⟩ (by repeat (first | exact List.Sublist.refl _ | exact List.nil_sublist _ | apply List.Sublist.cons_cons | apply List.Sublist.cons))
  repeat refine s_seqs ?_
  refine s_cond_no rfl rfl ?_
  refine s_skip fun a w ok => WPs.run ?_ a w ok
  clear ok w a
  clear hw13 hw6
  repeat refine s_seqs ?_
  refine s_reg ?_
  refine step_pure rfl (pure_move rfl) ?_
  refine step_pure rfl (pure_build_struct (pl := [(0, 1), (1, 1), (2, 1)]) rfl zero24 rfl rfl rfl rfl) ?_
  refine step_gives rfl fun18 rfl (fun w' _ kp => peliciting_any ⟨0, 0, l⟩ _ w' ⟨_, rfl, hv.mono (Cz.now kp)⟩ hbig hle) ?_
  refine step_pure rfl (pure_assign rfl) ?_
  refine Vc.step_end (fun a w ok => ?_)
  first | (refine WPs.run ?_ a w ok; clear ok w a) | skip
  repeat refine s_seqs ?_
  refine s_reg ?_
  refine step_pure rfl (pure_move rfl) ?_
  refine step_pure rfl (pure_build_struct (pl := [(0, 1), (1, 1), (2, 1)]) rfl zero24 rfl rfl rfl rfl) ?_
  refine step_gives rfl fun18 rfl (fun w' _ kp => peliciting_any ⟨0, 0, ks⟩ _ w' ⟨_, rfl, hr9.mono (Cz.now kp)⟩ hkbig hkle) ?_
  refine step_pure rfl (pure_assign rfl) ?_
  refine Vc.step_end (fun a w ok => ?_)
  first | (refine WPs.run ?_ a w ok; clear ok w a) | skip
  have hls : cy = 0 → ls.length = l.length + 1 := by
    rcases hy with ⟨rfl, -⟩ | ⟨-, n, rfl, -⟩
    · intro h; cases h
    · intro _; rw [List.length_append, List.length_singleton]
  have hpp : cx = 0 → pasks ⟨0, 0, l⟩ = pasks ⟨0, 0, ks⟩ := by
    rcases hx with ⟨rfl, -⟩ | ⟨-, n, hk, hwk, -⟩
    · intro h; cases h
    · intro _; exact pasks_pad hok hwk hk
  have hcx : cx = 0 ∨ cx = 30 := by rcases hx with ⟨h, -⟩ | ⟨h, -⟩ <;> omega
  have hcy : cy = 0 ∨ cy = 30 := by rcases hy with ⟨h, -⟩ | ⟨h, -⟩ <;> omega
  clear hx hy hkbig hkle hr9 hr11 hv
  generalize pasks ⟨0, 0, l⟩ = pl at *
  generalize pasks ⟨0, 0, ks⟩ = pk at *
  generalize ls.length = ll at *
  generalize l.length = q at *
  repeat refine s_seqs ?_
  refine s_meet [(4, .bool true)] [] ?_ (fun a w ok => WPs.run ?_ a w ok)
  · rcases hcx with rfl | rfl
    · have hpp := hpp rfl
      subst hpp
      rcases hcy with rfl | rfl
      · have hls := hls rfl
        subst hls
        repeat refine c_seq ?_
        refine c_region ?_
        refine step_pure rfl (pure_move rfl) ?_
        refine step_pure rfl (pure_move rfl) ?_
        refine step_pure rfl (pure_move rfl) ?_
        refine step_pure rfl (pure_eql rfl rfl) ?_
        refine step_pure rfl (pure_move rfl) ?_
        refine step_pass rfl rfl rfl ?_
        refine step_pass rfl rfl rfl ?_
        refine step_pure rfl (pure_pick_yes rfl rfl) ?_
        refine step_pure rfl (pure_pick_yes rfl rfl) ?_
        refine step_pure rfl (pure_move rfl) ?_
        refine step_pure rfl (pure_move rfl) ?_
        refine step_pure rfl (pure_neq rfl rfl) ?_
        refine step_pure rfl (pure_move rfl) ?_
        refine step_pure rfl (pure_move rfl) ?_
        refine step_pure rfl (pure_move rfl) ?_
        refine step_as rfl (pure_beql rfl rfl rfl rfl) (show _ = Value.bool true from by rw [beq_self_eq_true]) ?_
        refine step_pure rfl (pure_pick_no rfl rfl) ?_
        refine step_pure rfl (pure_pick_yes rfl rfl) ?_
        refine step_pure rfl (pure_move rfl) ?_
        refine step_pure rfl (pure_move rfl) ?_
        refine step_pure rfl (pure_neq rfl rfl) ?_
        refine step_pure rfl (pure_move rfl) ?_
        refine step_pure rfl (pure_move rfl) ?_
        refine step_pure rfl (pure_len_slice rfl rfl rfl) ?_
        refine step_pure rfl (pure_move rfl) ?_
        refine step_pure rfl (pure_len_slice rfl rfl rfl) ?_
        first | refine step_pure rfl (pure_add64 rfl rfl (by omega) (by omega)) ?_ | refine step_pure rfl (pure_add rfl rfl) ?_
        refine step_as rfl (pure_eql rfl rfl) (show _ = Value.bool true from by show Value.bool (((q + 1 : Nat) : Int) == ((q : Int) + 1)) = _; rw [show (((q + 1 : Nat) : Int)) = ((q : Int) + 1) from rfl, beq_self_eq_true]) ?_
        refine step_pure rfl (pure_pick_no rfl rfl) ?_
        refine step_pure rfl (pure_pick_yes rfl rfl) ?_
        refine step_pure rfl (pure_assign rfl) ?_
        refine step_nil ?_
        exact less_sub ⟨rfl, trivial⟩ (by repeat (first | exact List.Sublist.refl _ | exact List.nil_sublist _ | apply List.Sublist.cons_cons | apply List.Sublist.cons))
      · repeat refine c_seq ?_
        refine c_region ?_
        refine step_pure rfl (pure_move rfl) ?_
        refine step_pure rfl (pure_move rfl) ?_
        refine step_pure rfl (pure_move rfl) ?_
        refine step_pure rfl (pure_eql rfl rfl) ?_
        refine step_pure rfl (pure_move rfl) ?_
        refine step_pass rfl rfl rfl ?_
        refine step_pass rfl rfl rfl ?_
        refine step_pure rfl (pure_pick_yes rfl rfl) ?_
        refine step_pure rfl (pure_pick_yes rfl rfl) ?_
        refine step_pure rfl (pure_move rfl) ?_
        refine step_pure rfl (pure_move rfl) ?_
        refine step_pure rfl (pure_neq rfl rfl) ?_
        refine step_pure rfl (pure_move rfl) ?_
        refine step_pure rfl (pure_move rfl) ?_
        refine step_pure rfl (pure_move rfl) ?_
        refine step_as rfl (pure_beql rfl rfl rfl rfl) (show _ = Value.bool true from by rw [beq_self_eq_true]) ?_
        refine step_pure rfl (pure_pick_no rfl rfl) ?_
        refine step_pure rfl (pure_pick_yes rfl rfl) ?_
        refine step_pure rfl (pure_move rfl) ?_
        refine step_pure rfl (pure_move rfl) ?_
        refine step_pure rfl (pure_neq rfl rfl) ?_
        refine step_pure rfl (pure_move rfl) ?_
        refine step_pass rfl rfl rfl ?_
        refine step_pass rfl rfl rfl ?_
        refine step_pass rfl rfl rfl ?_
        refine step_pass rfl rfl rfl ?_
        refine step_pass rfl rfl rfl ?_
        refine step_pass rfl rfl rfl ?_
        refine step_pure rfl (pure_pick_yes rfl rfl) ?_
        refine step_pure rfl (pure_pick_yes rfl rfl) ?_
        refine step_pure rfl (pure_assign rfl) ?_
        refine step_nil ?_
        exact less_sub ⟨rfl, trivial⟩ (by repeat (first | exact List.Sublist.refl _ | exact List.nil_sublist _ | apply List.Sublist.cons_cons | apply List.Sublist.cons))
    · rcases hcy with rfl | rfl
      · have hls := hls rfl
        subst hls
        repeat refine c_seq ?_
        refine c_region ?_
        refine step_pure rfl (pure_move rfl) ?_
        refine step_pure rfl (pure_move rfl) ?_
        refine step_pure rfl (pure_move rfl) ?_
        refine step_pure rfl (pure_eql rfl rfl) ?_
        refine step_pure rfl (pure_move rfl) ?_
        refine step_pure rfl (pure_move rfl) ?_
        refine step_pure rfl (pure_eql rfl rfl) ?_
        refine step_pure rfl (pure_pick_no rfl rfl) ?_
        refine step_pure rfl (pure_pick_yes rfl rfl) ?_
        refine step_pure rfl (pure_move rfl) ?_
        refine step_pure rfl (pure_move rfl) ?_
        refine step_pure rfl (pure_neq rfl rfl) ?_
        refine step_pure rfl (pure_move rfl) ?_
        refine step_pass rfl rfl rfl ?_
        refine step_pass rfl rfl rfl ?_
        refine step_pass rfl rfl rfl ?_
        refine step_pure rfl (pure_pick_yes rfl rfl) ?_
        refine step_pure rfl (pure_pick_yes rfl rfl) ?_
        refine step_pure rfl (pure_move rfl) ?_
        refine step_pure rfl (pure_move rfl) ?_
        refine step_pure rfl (pure_neq rfl rfl) ?_
        refine step_pure rfl (pure_move rfl) ?_
        refine step_pure rfl (pure_move rfl) ?_
        refine step_pure rfl (pure_len_slice rfl rfl rfl) ?_
        refine step_pure rfl (pure_move rfl) ?_
        refine step_pure rfl (pure_len_slice rfl rfl rfl) ?_
        first | refine step_pure rfl (pure_add64 rfl rfl (by omega) (by omega)) ?_ | refine step_pure rfl (pure_add rfl rfl) ?_
        refine step_as rfl (pure_eql rfl rfl) (show _ = Value.bool true from by show Value.bool (((q + 1 : Nat) : Int) == ((q : Int) + 1)) = _; rw [show (((q + 1 : Nat) : Int)) = ((q : Int) + 1) from rfl, beq_self_eq_true]) ?_
        refine step_pure rfl (pure_pick_no rfl rfl) ?_
        refine step_pure rfl (pure_pick_yes rfl rfl) ?_
        refine step_pure rfl (pure_assign rfl) ?_
        refine step_nil ?_
        exact less_sub ⟨rfl, trivial⟩ (by repeat (first | exact List.Sublist.refl _ | exact List.nil_sublist _ | apply List.Sublist.cons_cons | apply List.Sublist.cons))
      · exact absurd hor2 (by decide)
  exact s_ret fun a w ok => ends_k on (.inr rfl) ok (res_tmp Try.results7 rfl)
end Go.Proofs.Ytajcfafamdacdaa
