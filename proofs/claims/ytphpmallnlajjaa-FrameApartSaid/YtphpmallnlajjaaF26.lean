/- The law FrameCuts, walked. -/
import Derived.Test.YtphpmallnlajjaaF25
namespace Go.Proofs.Ytphpmallnlajjaa
open Go.RowKit Go.Vc
set_option linter.unusedVariables false

theorem fb_inj {f g : Fr} {r s : List Int} (hf : fok f = true) (hg : fok g = true) (h : fbytes f ++ r = fbytes g ++ s) : f = g ∧ r = s := by
  have h1 := read_write f hf r
  have h2 := read_write g hg s
  rw [h] at h1
  exact ⟨h1.1.symm.trans h2.1, by have := h1.2.symm.trans h2.2; exact congrArg Prod.fst this⟩
theorem fb_prefix : ∀ {fs l : List Fr} {r : List Int}, (∀ f ∈ fs, fok f = true) → (∀ f ∈ l, fok f = true) → l.flatMap fbytes = fs.flatMap fbytes ++ r → ∃ l', l = fs ++ l' ∧ l'.flatMap fbytes = r
  | [], l, r, _, _, h => ⟨l, rfl, by simpa using h⟩
  | f :: fs, [], r, hf, _, h => by
    have := fbytes_ne f (hf f (.head _)) (fs.flatMap fbytes ++ r)
    rw [List.flatMap_cons, List.append_assoc] at h
    rw [← h] at this
    exact absurd rfl this
  | f :: fs, g :: l, r, hf, hl, h => by
    rw [List.flatMap_cons, List.flatMap_cons, List.append_assoc] at h
    obtain ⟨rfl, h2⟩ := fb_inj (hl g (.head _)) (hf f (.head _)) h
    obtain ⟨l', rfl, h3⟩ := fb_prefix (fun x hx => hf x (.tail _ hx)) (fun x hx => hl x (.tail _ hx)) h2
    exact ⟨l', rfl, h3⟩
theorem wBs_nil {l : List Fr} (h : wrOk l = true) (h0 : wBs l = []) : l = [] := by
  rw [wBs_ok h] at h0
  cases l with
  | nil => rfl
  | cons f l =>
    have := fbytes_ne f ((wrOk_in h).2 f (.head _)) (l.flatMap fbytes)
    rw [List.flatMap_cons] at h0
    rw [h0] at this
    exact absurd rfl this
/-- Bytes that are cut are fewer frames'. -/
theorem cut_less {l fs : List Fr} {k : Nat} (hl : wrOk l = true) (hb : Bytes (wBs l)) (hk : k < (wBs l).length) (h : rdAll ((wBs l).take k) = some fs) : wBs fs = (wBs l).take k ∧ fs.length < l.length ∧ wrOk fs = true := by
  obtain ⟨h1, h2, h3⟩ := rdAll_read (fun x hx => hb x (List.mem_of_mem_take hx)) h
  have h4 : l.flatMap fbytes = fs.flatMap fbytes ++ (wBs l).drop k := by
    rw [← h1, List.take_append_drop, wBs_ok hl]
  obtain ⟨l', rfl, h5⟩ := fb_prefix (wrOk_in h2).2 (wrOk_in hl).2 h4
  refine ⟨by rw [wBs_ok h2, h1], ?_, h2⟩
  cases l' with
  | nil =>
    simp only [List.append_nil] at *
    have := congrArg List.length h5
    rw [List.length_drop] at this
    simp at this
    omega
  | cons x l' => rw [List.length_append, List.length_cons]; omega

set_option maxHeartbeats 4000000 in
theorem framecuts_any (l : List Fr) (v : Value) (cut : Int) (w0 : World) (hv : FrsC (At w0) v l) (hl : ∀ f ∈ l, Bytes f.data) (hbig : ∀ f ∈ l, f.data.length ≤ maxLen) (hc0 : 0 ≤ cut ∧ cut < 65536) :
    Gives tb 10 [v, .int .u16 cut] w0 (.bool true) := by
  obtain ⟨base1, cap1, rfl, hcap1⟩ := hv.slice
  have hcw : IntKind.i64.wrap cut = cut := wrap_i64 (by omega) (by omega)
  refine gives_ofk (fn := Try.f10) Try.func10 rfl Try.ntmps10 rfl (fun on => ?_)
  have hv : FrsC (Cz (fun _ => True) ⟨w0, [], []⟩) (.slice base1 l.length cap1) l := hv.mono fun p x h => cz_start p x ⟨h, trivial⟩
  repeat refine s_seqs ?_
  refine s_reg ?_
  refine step_pure rfl (pure_assign rfl) ?_
  refine Vc.step_end (fun a w ok => ?_)
  first | (refine WPs.run ?_ a w ok; clear ok w a) | skip
  repeat refine s_seqs ?_
  refine s_reg ?_
  refine step_gives rfl fun11 rfl (fun w _ _ => awake_any w) ?_
  refine step_pure rfl (pure_assign rfl) ?_
  refine Vc.step_end (fun a w ok => ?_)
  first | (refine WPs.run ?_ a w ok; clear ok w a) | skip
  repeat refine s_seqs ?_
  refine s_reg ?_
  refine step_pure rfl (pure_move rfl) ?_
  refine step_givesP on.sc rfl fun13 rfl (fun w' Z' hh kp hZ hC => write_P l _ w' hZ (hv.mono fun p x h => (hC p x h).1) hbig) ?_
  rintro x E1 g ⟨v3, rfl, hw⟩
  replace on := on.next g
  clear hv g
  refine step_pure rfl (pure_move rfl) ?_
  refine step_pure rfl (pure_extract rfl rfl) ?_
  refine step_pure rfl (pure_extract rfl rfl) ?_
  refine step_pure rfl (pure_assign rfl) ?_
  refine step_pure rfl (pure_assign rfl) ?_
  refine Vc.step_end (fun a w ok => ?_)
  first | (refine WPs.run ?_ a w ok; clear ok w a) | skip
  have hwb := wBs_bytes hl
  have hwl := wBs_le l
  have hnil := wBs_nil (l := l)
  have hno := wBs_no (fs := l)
  have hless := fun fs k h1 h2 h3 => cut_less (l := l) (fs := fs) (k := k) h1 hwb h2 h3
  obtain ⟨base3, cap3, rfl, hcap3⟩ := slc_str hw
  generalize wBs l = B at *
  repeat refine s_seqs ?_
  refine s_meet [(0, .slice base1 l.length cap1), (1, .int .u16 cut), (5, .bool true), (6, .slice base3 B.length cap3), (7, .int .i64 (if wrOk l = true then 0 else 20)), (30, .bool (decide ((B.length : Int) > 5000) || (!wrOk l || (B.length : Int) == 0)))] [] ?_ (fun a w ok => WPs.run ?_ a w ok)
  · clear hless hnil hno
    generalize wrOk l = wk at *
    generalize B.length = n at *
    repeat refine c_seq ?_
    refine c_region ?_
    refine step_pure rfl (pure_move rfl) ?_
    refine step_pure rfl (pure_len_slice rfl rfl rfl) ?_
    refine step_pure rfl (pure_gtr rfl rfl) ?_
    refine step_pure rfl (pure_move rfl) ?_
    refine step_split (t := 22) rfl (fun h22 => ?_) (fun h22 => ?_)
    · refine step_pass rfl rfl rfl ?_
      refine step_pass rfl rfl rfl ?_
      refine step_pure rfl (pure_pick_yes rfl rfl) ?_
      refine step_pure rfl (pure_move rfl) ?_
      refine step_pass rfl rfl rfl ?_
      refine step_pass rfl rfl rfl ?_
      refine step_pass rfl rfl rfl ?_
      refine step_pure rfl (pure_pick_yes rfl rfl) ?_
      refine step_nil ?_
      refine less_of ⟨rfl, rfl, rfl, rfl, rfl, ?_, trivial⟩ rfl
      refine congrArg some (congrArg Value.bool ?_)
      cases wk <;> simp_all <;> omega
    · refine step_pure rfl (pure_move rfl) ?_
      refine step_pure rfl (pure_neq rfl rfl) ?_
      refine step_pure rfl (pure_pick_no rfl rfl) ?_
      refine step_pure rfl (pure_move rfl) ?_
      refine step_split (t := 26) rfl (fun h26 => ?_) (fun h26 => ?_)
      · refine step_pass rfl rfl rfl ?_
        refine step_pass rfl rfl rfl ?_
        refine step_pass rfl rfl rfl ?_
        refine step_pure rfl (pure_pick_yes rfl rfl) ?_
        refine step_nil ?_
        refine less_of ⟨rfl, rfl, rfl, rfl, rfl, ?_, trivial⟩ rfl
        refine congrArg some (congrArg Value.bool ?_)
        cases wk <;> simp_all <;> omega
      · refine step_pure rfl (pure_move rfl) ?_
        refine step_pure rfl (pure_len_slice rfl rfl rfl) ?_
        refine step_pure rfl (pure_eql rfl rfl) ?_
        refine step_pure rfl (pure_pick_no rfl rfl) ?_
        refine step_nil ?_
        refine less_of ⟨rfl, rfl, rfl, rfl, rfl, ?_, trivial⟩ rfl
        refine congrArg some (congrArg Value.bool ?_)
        cases wk <;> simp_all <;> omega
  repeat refine s_seqs ?_
  refine s_cond rfl (fun h => ?_) (fun h => ?_)
  · have hl0 : (B.length : Int) = 0 → wrOk l = true → l.length = 0 := by
      intro h0 h1
      rw [hnil h1 (List.eq_nil_of_length_eq_zero (by omega))]
      rfl
    clear hless hnil hno
    repeat refine s_seqs ?_
    refine s_meet [(4, .bool true)] [] ?_ (fun a w ok => WPs.run ?_ a w ok)
    · generalize wrOk l = wk at *
      generalize B.length = n at *
      repeat refine c_seq ?_
      refine c_region ?_
      refine step_pure rfl (pure_move rfl) ?_
      refine step_pure rfl (pure_move rfl) ?_
      refine step_split (t := 32) rfl (fun h32 => ?_) (fun h32 => ?_)
      · refine step_pure rfl (pure_move rfl) ?_
        refine step_pure rfl (pure_len_slice rfl rfl rfl) ?_
        refine step_pure rfl (pure_gtr rfl rfl) ?_
        refine step_pure rfl (pure_move rfl) ?_
        refine step_split (t := 36) rfl (fun h36 => ?_) (fun h36 => ?_)
        · refine step_pass rfl rfl rfl ?_
          refine step_pass rfl rfl rfl ?_
          refine step_pure rfl (pure_pick_yes rfl rfl) ?_
          refine step_pure rfl (pure_move rfl) ?_
          refine step_pass rfl rfl rfl ?_
          refine step_pass rfl rfl rfl ?_
          refine step_pass rfl rfl rfl ?_
          refine step_pure rfl (pure_pick_yes rfl rfl) ?_
          refine step_pure rfl (pure_pick_yes rfl rfl) ?_
          refine step_pure rfl (pure_assign rfl) ?_
          refine step_nil ?_
          refine less_of ⟨?_, trivial⟩ rfl
          refine congrArg some (congrArg Value.bool ?_)
          cases wk <;> simp_all <;> exact hl0 (h.resolve_left (by omega))
        · refine step_pure rfl (pure_move rfl) ?_
          refine step_pure rfl (pure_neq rfl rfl) ?_
          refine step_pure rfl (pure_pick_no rfl rfl) ?_
          refine step_pure rfl (pure_move rfl) ?_
          refine step_split (t := 40) rfl (fun h40 => ?_) (fun h40 => ?_)
          · refine step_pass rfl rfl rfl ?_
            refine step_pass rfl rfl rfl ?_
            refine step_pass rfl rfl rfl ?_
            refine step_pure rfl (pure_pick_yes rfl rfl) ?_
            refine step_pure rfl (pure_pick_yes rfl rfl) ?_
            refine step_pure rfl (pure_assign rfl) ?_
            refine step_nil ?_
            refine less_of ⟨?_, trivial⟩ rfl
            refine congrArg some (congrArg Value.bool ?_)
            cases wk <;> simp_all <;> exact hl0 (h.resolve_left (by omega))
          · refine step_pure rfl (pure_move rfl) ?_
            refine step_pure rfl (pure_len_slice rfl rfl rfl) ?_
            refine step_pure rfl (pure_eql rfl rfl) ?_
            refine step_pure rfl (pure_pick_no rfl rfl) ?_
            refine step_pure rfl (pure_pick_yes rfl rfl) ?_
            refine step_pure rfl (pure_assign rfl) ?_
            refine step_nil ?_
            refine less_of ⟨?_, trivial⟩ rfl
            refine congrArg some (congrArg Value.bool ?_)
            cases wk <;> simp_all <;> exact hl0 (h.resolve_left (by omega))
      · refine step_pass rfl rfl rfl ?_
        refine step_pass rfl rfl rfl ?_
        refine step_pass rfl rfl rfl ?_
        refine step_pass rfl rfl rfl ?_
        refine step_pass rfl rfl rfl ?_
        refine step_pass rfl rfl rfl ?_
        refine step_pass rfl rfl rfl ?_
        refine step_pass rfl rfl rfl ?_
        refine step_pass rfl rfl rfl ?_
        refine step_pass rfl rfl rfl ?_
        refine step_pass rfl rfl rfl ?_
        refine step_pass rfl rfl rfl ?_
        refine step_pure rfl (pure_pick_no rfl rfl) ?_
        refine step_pure rfl (pure_assign rfl) ?_
        refine step_nil ?_
        refine less_of ⟨?_, trivial⟩ rfl
        refine congrArg some (congrArg Value.bool ?_)
        cases wk <;> simp_all <;> exact hl0 (h.resolve_left (by omega))
    exact s_ret fun a w ok => ends_k on (.inr rfl) ok (res_tmp Try.results10 rfl)
  have hh3 : B.length ≤ 5000 ∧ wrOk l = true ∧ 0 < B.length := by
    simp at h
    refine ⟨by omega, h.2.1, ?_⟩
    rcases Nat.eq_zero_or_pos B.length with h0 | h0
    · exact absurd (List.eq_nil_of_length_eq_zero h0) h.2.2
    · exact h0
  obtain ⟨h5, hok, h0⟩ := hh3
  clear h hnil hno
  rw [if_pos hok]
  refine s_skip fun a w ok => WPs.run ?_ a w ok
  obtain ⟨k, hk, hkn⟩ : ∃ k : Nat, cut % (B.length : Int) = k ∧ k < B.length := by
    have h1 := Int.emod_nonneg cut (b := (B.length : Int)) (by omega)
    have h2 := Int.emod_lt_of_pos cut (b := (B.length : Int)) (by omega)
    exact ⟨(cut % (B.length : Int)).toNat, by omega, by omega⟩
  repeat refine s_seqs ?_
  refine s_reg ?_
  refine step_pure rfl (pure_move rfl) ?_
  refine step_as rfl (pure_conv rfl rfl rfl rfl) (show _ = Value.int .i64 cut from by rw [hcw]) ?_
  refine step_pure rfl (pure_move rfl) ?_
  refine step_pure rfl (pure_len_slice rfl rfl rfl) ?_
  refine step_as rfl (pure_rem_pos rfl rfl (by omega) (by omega)) (show _ = Value.int .i64 k from by rw [hk]) ?_
  refine step_pure rfl (pure_assign rfl) ?_
  refine Vc.step_end (fun a w ok => ?_)
  first | (refine WPs.run ?_ a w ok; clear ok w a) | skip
  have hsub := slc_sub (lo := 0) (hi := k) hw (Nat.zero_le _) (by omega)
  rw [Nat.zero_mul, List.drop_zero, Nat.sub_zero, Nat.mul_one, show (row B).take k = row (B.take k) from (List.map_take ..).symm] at hsub
  have htl : (B.take k).length = k := by rw [List.length_take]; omega
  rw [show SlC (Cz (fun _ => True) E1) 1 (subS base3 cap3 1 0 k) k (row (B.take k)) = SlC (Cz (fun _ => True) E1) 1 (subS base3 cap3 1 0 k) (B.take k).length (row (B.take k)) by rw [htl]] at hsub
  repeat refine s_seqs ?_
  refine s_reg ?_
  refine step_pure rfl (pure_move rfl) ?_
  refine step_pure rfl (pure_move rfl) ?_
  refine step_as rfl (pure_sub_hi rfl rfl rfl rfl rfl (by omega) (by omega)) (show _ = subS base3 cap3 1 0 k from by show subS base3 cap3 1 0 (k : Int).toNat = _; rw [Int.toNat_natCast]) ?_
  refine step_givesP on.sc rfl fun19 rfl (fun w' Z' hh kp hZ hC => read_P (B.take k) _ w' hZ (hsub.mono fun p x h => (hC p x h).1) (fun x hx => hwb x (List.mem_of_mem_take hx)) (by omega)) ?_
  rintro x E2 g ⟨v4, rfl, hr⟩
  replace on := on.next g
  replace hsub := hsub.mono g.cz
  clear g hw
  refine step_pure rfl (pure_move rfl) ?_
  refine step_pure rfl (pure_extract rfl rfl) ?_
  refine step_pure rfl (pure_extract rfl rfl) ?_
  refine step_pure rfl (pure_assign rfl) ?_
  refine step_pure rfl (pure_assign rfl) ?_
  refine Vc.step_end (fun a w ok => ?_)
  first | (refine WPs.run ?_ a w ok; clear ok w a) | skip
  have hin := rdGet_in (b := B.take k) (fun x hx => hwb x (List.mem_of_mem_take hx))
  have hless := fun fs => hless fs k hok hkn
  generalize hRd : rdAll (B.take k) = R at *
  generalize hks : R.getD [] = ks at *
  obtain ⟨base4, cap4, rfl, hcap4⟩ := hr.slice
  repeat refine s_seqs ?_
  refine s_reg ?_
  refine step_pure rfl (pure_move rfl) ?_
  refine step_givesP on.sc rfl fun13 rfl (fun w' Z' hh kp hZ hC => write_P ks _ w' hZ (hr.mono fun p x h => (hC p x h).1) (fun f hf => (wrOk_big hin.1 f hf).1)) ?_
  rintro x E3 g ⟨v5, rfl, hw⟩
  replace on := on.next g
  replace hsub := hsub.mono g.cz
  refine step_pure rfl (pure_move rfl) ?_
  refine step_pure rfl (pure_extract rfl rfl) ?_
  refine step_pure rfl (pure_extract rfl rfl) ?_
  refine step_pure rfl (pure_assign rfl) ?_
  refine step_pure rfl (pure_assign rfl) ?_
  refine Vc.step_end (fun a w ok => ?_)
  first | (refine WPs.run ?_ a w ok; clear ok w a) | skip
  rw [if_pos hin.1]
  cases R with
  | none =>
    have : ks = [] := hks.symm
    subst this
    repeat refine s_seqs ?_
    refine s_dreg [1, 9, 17, 25, 33, 41, 49, 57, 65, 73, 81, 89, 97, 105, 113, 121, 129, 137, 147, 153, 161, 169, 179, 185, 193, 201, 209, 217, 225, 233, 241, 249, 257, 265, 273] [] follows (by kernel_rfl) ?_
    refine d_pure0 rfl rfl rfl (pure_move rfl) ?_
    refine d_pure0 rfl rfl rfl (pure_move rfl) ?_
    refine d_pure0 rfl rfl rfl (pure_move rfl) ?_
    refine d_pure0 rfl rfl rfl (pure_neq rfl rfl) ?_
    refine d_pure0 rfl rfl rfl (pure_move rfl) ?_
    refine d_pure0 rfl rfl rfl (pure_move rfl) ?_
    refine d_pure0 rfl rfl rfl (pure_len_slice rfl rfl rfl) ?_
    refine d_pure0 rfl rfl rfl (pure_eql rfl rfl) ?_
    refine d_pure0 rfl rfl rfl (pure_pick_yes rfl rfl) ?_
    refine d_pure0 rfl rfl rfl (pure_move rfl) ?_
    refine d_pass rfl rfl rfl (fun h => by cases h) rfl rfl rfl ?_
    refine d_pass rfl rfl rfl (fun h => by cases h) rfl rfl rfl ?_
    refine d_pass rfl rfl rfl (fun h => by cases h) rfl rfl rfl ?_
    refine d_pass rfl rfl rfl (fun h => by cases h) rfl rfl rfl ?_
    refine d_pass rfl rfl rfl (fun h => by cases h) rfl rfl rfl ?_
    refine d_pass rfl rfl rfl (fun h => by cases h) rfl rfl rfl ?_
    refine d_pass rfl rfl rfl (fun h => by cases h) rfl rfl rfl ?_
    refine d_pass rfl rfl rfl (fun h => by cases h) rfl rfl rfl ?_
    refine d_pass rfl rfl rfl (fun _ => (by first | exact SubMem.refl _ | exact (SubMem.refl _).cons | exact (SubMem.refl _).cons.cons | exact (SubMem.refl _).cons.cons.cons | exact (SubMem.refl _).cons.cons.cons.cons | exact (fun w hh => Has.sublist (by repeat (first | exact List.Sublist.refl _ | exact List.nil_sublist _ | apply List.Sublist.cons_cons | apply List.Sublist.cons)) hh))) rfl rfl rfl ?_
    refine d_pass rfl rfl rfl (fun h => by cases h) rfl rfl rfl ?_
    refine d_pass rfl rfl rfl (fun h => by cases h) rfl rfl rfl ?_
    refine d_pass rfl rfl rfl (fun h => by cases h) rfl rfl rfl ?_
    refine d_pass rfl rfl rfl (fun _ => (by first | exact SubMem.refl _ | exact (SubMem.refl _).cons | exact (SubMem.refl _).cons.cons | exact (SubMem.refl _).cons.cons.cons | exact (SubMem.refl _).cons.cons.cons.cons | exact (fun w hh => Has.sublist (by repeat (first | exact List.Sublist.refl _ | exact List.nil_sublist _ | apply List.Sublist.cons_cons | apply List.Sublist.cons)) hh))) rfl rfl rfl ?_
    refine d_pass rfl rfl rfl (fun h => by cases h) rfl rfl rfl ?_
    refine d_pass rfl rfl rfl (fun h => by cases h) rfl rfl rfl ?_
    refine d_pass rfl rfl rfl (fun h => by cases h) rfl rfl rfl ?_
    refine d_pass rfl rfl rfl (fun h => by cases h) rfl rfl rfl ?_
    refine d_pass rfl rfl rfl (fun h => by cases h) rfl rfl rfl ?_
    refine d_pass rfl rfl rfl (fun h => by cases h) rfl rfl rfl ?_
    refine d_pass rfl rfl rfl (fun h => by cases h) rfl rfl rfl ?_
    refine d_pass rfl rfl rfl (fun h => by cases h) rfl rfl rfl ?_
    refine d_pass rfl rfl rfl (fun h => by cases h) rfl rfl rfl ?_
    refine d_pure0 rfl rfl rfl (pure_pick_yes rfl rfl) ?_
    refine d_pure0 rfl rfl rfl (pure_pick_yes rfl rfl) ?_
    refine d_pure0 rfl rfl rfl (pure_assign rfl) ?_
    refine d_end (fun a w ok => ?_)
    first | (refine WPs.run ?_ a w ok; clear ok w a) | skip
    exact s_ret fun a w ok => ends_k on (.inr rfl) ok (res_tmp Try.results10 rfl)
  | some fs =>
    have : fs = ks := hks
    subst this
    obtain ⟨h1, h2, h3⟩ := hless _ rfl
    rw [h1] at hw
    repeat refine s_seqs ?_
    refine s_dreg [1, 9, 17, 25, 33, 41, 49, 57, 65, 73, 81, 89, 97, 105, 113, 121, 129, 137, 147, 153, 161, 169, 179, 185, 193, 201, 209, 217, 225, 233, 241, 249, 257, 265, 273] [] follows (by kernel_rfl) ?_
    refine d_pure0 rfl rfl rfl (pure_move rfl) ?_
    refine d_pure0 rfl rfl rfl (pure_move rfl) ?_
    refine d_pure0 rfl rfl rfl (pure_move rfl) ?_
    refine d_pure0 rfl rfl rfl (pure_neq rfl rfl) ?_
    refine d_pure0 rfl rfl rfl (pure_move rfl) ?_
    refine d_pass rfl rfl rfl (fun h => by cases h) rfl rfl rfl ?_
    refine d_pass rfl rfl rfl (fun h => by cases h) rfl rfl rfl ?_
    refine d_pass rfl rfl rfl (fun h => by cases h) rfl rfl rfl ?_
    refine d_pure0 rfl rfl rfl (pure_pick_no rfl rfl) ?_
    refine d_pure0 rfl rfl rfl (pure_move rfl) ?_
    refine d_pure0 rfl rfl rfl (pure_move rfl) ?_
    refine d_pure0 rfl rfl rfl (pure_eql rfl rfl) ?_
    refine d_pure0 rfl rfl rfl (pure_move rfl) ?_
    refine d_pure0 rfl rfl rfl (pure_move rfl) ?_
    refine d_pure0 rfl rfl rfl (pure_eql rfl rfl) ?_
    refine d_pure0 rfl rfl rfl (pure_pick_yes rfl rfl) ?_
    refine d_pure0 rfl rfl rfl (pure_move rfl) ?_
    refine d_pure0 rfl rfl rfl (pure_move rfl) ?_
    refine d_pure1 rfl rfl rfl (pure_cz_string rfl rfl rfl rfl rfl rfl rfl hw) (by first | exact SubMem.refl _ | exact (SubMem.refl _).cons | exact (SubMem.refl _).cons.cons | exact (SubMem.refl _).cons.cons.cons | exact (SubMem.refl _).cons.cons.cons.cons | exact (fun w hh => Has.sublist (by repeat (first | exact List.Sublist.refl _ | exact List.nil_sublist _ | apply List.Sublist.cons_cons | apply List.Sublist.cons)) hh)) ?_
    refine d_pure0 rfl rfl rfl (pure_move rfl) ?_
    refine d_pure0 rfl rfl rfl (pure_move rfl) ?_
    refine d_as0 rfl rfl rfl (pure_sub_hi rfl rfl rfl rfl rfl (by omega) (by omega)) (show _ = subS base3 cap3 1 0 k from by show subS base3 cap3 1 0 (k : Int).toNat = _; rw [Int.toNat_natCast]) ?_
    refine d_pure1 rfl rfl rfl (pure_cz_string rfl rfl rfl rfl rfl rfl rfl hsub) (by first | exact SubMem.refl _ | exact (SubMem.refl _).cons | exact (SubMem.refl _).cons.cons | exact (SubMem.refl _).cons.cons.cons | exact (SubMem.refl _).cons.cons.cons.cons | exact (fun w hh => Has.sublist (by repeat (first | exact List.Sublist.refl _ | exact List.nil_sublist _ | apply List.Sublist.cons_cons | apply List.Sublist.cons)) hh)) ?_
    refine d_as0 rfl rfl rfl (pure_str_eql rfl rfl) (show _ = Value.bool true from by rw [beq_self_eq_true]) ?_
    refine d_pure0 rfl rfl rfl (pure_pick_yes rfl rfl) ?_
    refine d_pure0 rfl rfl rfl (pure_move rfl) ?_
    refine d_pure0 rfl rfl rfl (pure_move rfl) ?_
    refine d_pure0 rfl rfl rfl (pure_len_slice rfl rfl rfl) ?_
    refine d_pure0 rfl rfl rfl (pure_move rfl) ?_
    refine d_pure0 rfl rfl rfl (pure_len_slice rfl rfl rfl) ?_
    refine d_as0 rfl rfl rfl (pure_lss rfl rfl) (show _ = Value.bool true from by rw [decide_eq_true (by omega)]) ?_
    refine d_pure0 rfl rfl rfl (pure_pick_yes rfl rfl) ?_
    refine d_pure0 rfl rfl rfl (pure_pick_no rfl rfl) ?_
    refine d_pure0 rfl rfl rfl (pure_pick_yes rfl rfl) ?_
    refine d_pure0 rfl rfl rfl (pure_assign rfl) ?_
    refine d_end (fun a w ok => ?_)
    first | (refine WPs.run ?_ a w ok; clear ok w a) | skip
    exact s_ret fun a w ok => ends_k on (.inr rfl) ok (res_tmp Try.results10 rfl)
end Go.Proofs.Ytphpmallnlajjaa
