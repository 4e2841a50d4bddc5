/- The document's Write; the law FrameTells: walked. -/
import Derived.Test.YtphpmallnlajjaaF28
namespace Go.Proofs.Ytphpmallnlajjaa
open Go.RowKit Go.Vc
set_option linter.unusedVariables false

theorem wrR_mono (fs : List Fr) : ∀ v (C C' : Addr → Value → Prop), (∀ p x, C p x → C' p x) → WrR fs v C → WrR fs v C' := by
  rintro u C C' hC ⟨v, rfl, hs⟩
  exact ⟨v, rfl, hs.mono hC⟩
theorem slc_nil {C : Addr → Value → Prop} {sz : Nat} : SlC C sz (.slice none 0 0) 0 [] := ⟨none, 0, rfl, Nat.le_refl _, by simp, fun h => absurd rfl h⟩
theorem wrR_no {fs : List Fr} {C : Addr → Value → Prop} (h : wrOk fs = false) : WrR fs (.tuple #[.slice none 0 0, .int .i64 20]) C := by
  refine ⟨_, by rw [if_neg (by rw [h]; decide)], ?_⟩
  rw [wBs_no h]
  exact slc_nil
theorem wrOk_long {fs : List Fr} (h : 16 < fs.length) : wrOk fs = false := by
  unfold wrOk
  rw [decide_eq_false (by omega), Bool.false_and]
theorem wrOk_all {fs : List Fr} (h : fs.length ≤ 16) (hall : ∀ (j : Nat) f, j < fs.length → fs[j]? = some f → fok f = true) : wrOk fs = true := by
  unfold wrOk
  rw [Bool.and_eq_true, List.all_eq_true]
  refine ⟨by simpa using h, fun f hf => ?_⟩
  obtain ⟨i, hi, rfl⟩ := List.getElem_of_mem hf
  exact hall i _ hi (List.getElem?_eq_getElem hi)
set_option maxHeartbeats 4000000 in
theorem rwrite_P (fs : List Fr) (v : Value) (w : World) {Z : Nat → Prop} (hZ : ∀ b, w.heap.size ≤ b → Z b) (hv : FrsC (At w) v fs) (hbig : ∀ f ∈ fs, f.data.length ≤ maxLen) : GivesP tb 14 [v] w Z (WrR fs) := by
  have hv : FrsC (Cel ⟨w, [], []⟩) v fs := hv.mono fun p x h => ⟨h, by simp⟩
  obtain ⟨base1, cap1, rfl, hcap1⟩ := hv.slice
  refine givesP_of (fn := Try.f14) Try.func14 rfl Try.ntmps14 rfl hZ (wrR_mono fs) (fun on => ?_)
  repeat refine s_seqs ?_
  refine s_reg ?_
  refine step_pure rfl (pure_assign rfl) ?_
  refine step_pure rfl (pure_assign rfl) ?_
  refine Vc.step_end (fun a w ok => ?_)
  first | (refine WPs.run ?_ a w ok; clear ok w a) | skip
  repeat refine s_seqs ?_
  refine s_reg ?_
  refine step_pure rfl (pure_move rfl) ?_
  refine step_pure rfl (pure_len_slice rfl rfl rfl) ?_
  refine step_pure rfl (pure_gtr rfl rfl) ?_
  refine Vc.step_end (fun a w ok => ?_)
  first | (refine WPs.run ?_ a w ok; clear ok w a) | skip
  repeat refine s_seqs ?_
  refine s_cond rfl (fun h => ?_) (fun h => ?_)
  · have hno : wrOk fs = false := wrOk_long (by have := of_decide_eq_true h; omega)
    repeat refine s_seqs ?_
    refine s_reg ?_
    refine step_pure rfl (pure_assign rfl) ?_
    refine step_pure rfl (pure_assign rfl) ?_
    refine Vc.step_end (fun a w ok => ?_)
    first | (refine WPs.run ?_ a w ok; clear ok w a) | skip
    exact s_ret fun a w ok => ends_givesP on (.inr rfl) ok (res_tmp2 Try.results14 rfl rfl) (wrR_mono fs) (wrR_no hno)
  have h16 : fs.length ≤ 16 := by have := of_decide_eq_false h; omega
  clear h
  refine s_skip fun a w ok => WPs.run ?_ a w ok
  clear ok w a
  repeat refine s_seqs ?_
  refine s_reg ?_
  refine step_pure rfl (pure_assign rfl) ?_
  refine step_hole ?_
  refine Vc.step_end (fun a w ok => ?_)
  first | (refine WPs.run ?_ a w ok; clear ok w a) | skip
  repeat refine s_seqs ?_
  refine s_reg ?_
  refine step_pure rfl (pure_assign rfl) ?_
  refine Vc.step_end (fun a w ok => ?_)
  first | (refine WPs.run ?_ a w ok; clear ok w a) | skip
  repeat refine s_seqs ?_
  refine s_block ?_
  repeat refine s_seqs ?_
  refine s_loopP (α := Nat × SlS) (fun z => [(0, .slice base1 fs.length cap1), (4, .slice z.2.base z.2.len z.2.cap), (5, .int .i64 z.1)]) (fun z => [z.2.e])
    (fun z _ => z.1 ≤ fs.length ∧ (∀ (j : Nat) f, j < z.1 → fs[j]? = some f → fok f = true) ∧ SlIs ty5 5 z.2.e z.2.base z.2.len z.2.cap (row ((fs.take z.1).flatMap fbytes))) (fun z => fs.length - z.1) (0, ⟨none, 0, 0, hole⟩)
    ⟨Nat.zero_le _, by dsimp only; omega, by dsimp only; rw [List.take_zero]; exact sl_nil _ _ (by decide)⟩ (less_of ⟨rfl, rfl, rfl, trivial⟩ rfl) ?_
  rintro ⟨i, base2, len2, cap2, e2⟩ E1 ⟨hi, hall, hs⟩ g
  dsimp only at hi hall hs ⊢
  obtain rfl := sl_len8 hs
  replace on := on.next g
  replace hv := hv.mono g.mono
  repeat refine s_seqs ?_
  refine s_reg ?_
  refine step_pure rfl (pure_move rfl) ?_
  refine step_pure rfl (pure_move rfl) ?_
  refine step_pure rfl (pure_len_slice rfl rfl rfl) ?_
  refine step_pure rfl (pure_lss rfl rfl) ?_
  refine Vc.step_end (fun a w ok => ?_)
  first | (refine WPs.run ?_ a w ok; clear ok w a) | skip
  repeat refine s_seqs ?_
  refine s_cond rfl (fun h => ?_) (fun h => ?_)
  · have hlt : i < fs.length := by have := of_decide_eq_true h; omega
    clear h
    refine s_skip fun a w ok => WPs.run ?_ a w ok
    clear ok w a
    repeat refine s_seqs ?_
    refine s_block ?_
    obtain ⟨p, cp, cs, hq, hfc, hp⟩ := hv.at hlt
    cases hq
    have hdb := hbig _ (List.getElem_mem hlt)
    have h5 := hfc.five
    have hck := fun w' kp => rcheck_any fs[i] cs w' (hfc.mono (fun p x h => h.now (w := w') kp)) hdb
    repeat refine s_seqs ?_
    refine s_reg ?_
    refine step_pure rfl (pure_move rfl) ?_
    refine step_pure rfl (pure_move rfl) ?_
    refine step_as rfl (pure_indexAddr_at rfl rfl rfl rfl rfl (by omega) (by omega)) (show _ = Value.pointer (some (p.add (i * 5))) from by show Value.pointer (some (p.add ((i : Int).toNat * 5))) = _; rw [Int.toNat_natCast]) ?_
    refine step_pure rfl (pure_cel_agg rfl rfl rfl h5 (fun j x hx => hp j x hx)) ?_
    refine step_gives rfl fun16 rfl (fun w' _ kp => hck w' kp) ?_
    refine step_pure rfl (pure_neq rfl rfl) ?_
    refine Vc.step_end (fun a w ok => ?_)
    first | (refine WPs.run ?_ a w ok; clear ok w a) | skip
    by_cases hk : fok fs[i] = true
    · rw [if_pos hk]
      repeat refine s_seqs ?_
      refine s_cond_no rfl rfl ?_
      refine s_skip fun a w ok => WPs.run ?_ a w ok
      clear ok w a
      have hsn := flatB_snoc fs i hlt
      have hfl := fbytes_le hk
      have hL := flatB_le (fs.take i) (fun f hf => by
        obtain ⟨j, hj, rfl⟩ := List.getElem_of_mem hf
        rw [List.length_take] at hj
        rw [List.getElem_take]
        exact hall j _ (by omega) (List.getElem?_eq_getElem _))
      rw [List.length_take] at hL
      generalize (fs.take i).flatMap fbytes = L at *
      repeat refine s_seqs ?_
      refine s_reg ?_
      refine step_pure rfl (pure_move rfl) ?_
      refine step_pure rfl (pure_move rfl) ?_
      refine step_pure rfl (pure_move rfl) ?_
      refine step_as rfl (pure_indexAddr_at rfl rfl rfl rfl rfl (by omega) (by omega)) (show _ = Value.pointer (some (p.add (i * 5))) from by show Value.pointer (some (p.add ((i : Int).toNat * 5))) = _; rw [Int.toNat_natCast]) ?_
      refine step_pure rfl (pure_cel_agg rfl rfl rfl h5 (fun j x hx => hp j x hx)) ?_
      refine step_givesP on.sc rfl fun24 rfl (fun w' Z' hh kp hZ hC => rfbytes_P fs[i] cs w' hZ (hfc.mono (fun p x h => h.now kp)) hk) ?_
      rintro u E2 g2 hu
      refine step_app8 0 rfl rfl hs rfl (SlC.mono hu Cz.cel) rfl (by omega) (fun base4 cap4 e4 hs4 => ?_)
      refine step_pure rfl (pure_assign rfl) ?_
      refine Vc.step_end (fun a w ok => ?_)
      first | (refine WPs.run ?_ a w ok; clear ok w a) | skip
      repeat refine s_seqs ?_
      refine s_reg ?_
      refine step_pure rfl (pure_move rfl) ?_
      first | refine step_pure rfl (pure_add64 rfl rfl (by omega) (by omega)) ?_ | refine step_pure rfl (pure_add rfl rfl) ?_
      refine step_pure rfl (pure_assign rfl) ?_
      refine Vc.step_end (fun a w ok => ?_)
      refine ⟨(i + 1, ⟨base4, L.length + (fbytes fs[i]).length, cap4, e4⟩), E2, ⟨hlt, fun j f hj hf => ?_, ?_⟩, by dsimp only; omega, g2, Less.ok ?_ ok⟩
      · dsimp only at hj
        by_cases hji : j = i
        · subst hji
          rw [List.getElem?_eq_getElem hlt] at hf
          cases hf
          exact hk
        · exact hall j f (by omega) hf
      · dsimp only
        rw [hsn]
        exact hs4
      exact less_of ⟨rfl, rfl, rfl, trivial⟩ rfl
    · have hno := wrOk_not hlt (by simpa using hk)
      rw [if_neg hk]
      repeat refine s_seqs ?_
      refine s_cond_yes rfl rfl ?_
      repeat refine s_seqs ?_
      refine s_reg ?_
      refine step_pure rfl (pure_assign rfl) ?_
      refine step_pure rfl (pure_assign rfl) ?_
      refine Vc.step_end (fun a w ok => ?_)
      first | (refine WPs.run ?_ a w ok; clear ok w a) | skip
      exact s_ret fun a w ok => ends_givesP on (.inr rfl) ok (res_tmp2 Try.results14 rfl rfl) (wrR_mono fs) (wrR_no hno)
  · have hie : i = fs.length := by have := of_decide_eq_false h; omega
    subst hie
    have hok := wrOk_all h16 hall
    rw [List.take_length] at hs
    refine s_exit fun a w ok => WPs.run ?_ a w ok
    clear ok w a
    rw [List.take_length]
    repeat refine s_seqs ?_
    refine s_reg ?_
    refine step_pure rfl (pure_move rfl) ?_
    refine step_pure rfl (pure_assign rfl) ?_
    refine step_pure rfl (pure_assign rfl) ?_
    refine Vc.step_end (fun a w ok => ?_)
    first | (refine WPs.run ?_ a w ok; clear ok w a) | skip
    refine s_let 0 rfl (fun E5 g5 hc => ?_)
    refine s_ret fun a w ok => ends_givesP (on.next g5) (.inr rfl) ok (res_tmp2 Try.results14 rfl rfl) (wrR_mono fs) ⟨_, by rw [if_pos hok], ?_⟩
    rw [wBs_ok hok]
    exact slis_cz hs (hc _ on.sc)

set_option maxHeartbeats 4000000 in
theorem frametells_any (l : List Fr) (v : Value) (w0 : World) (hv : FrsC (At w0) v l) (hbig : ∀ f ∈ l, f.data.length ≤ maxLen) : Gives tb 4 [v] w0 (.bool true) := by
  obtain ⟨base1, cap1, rfl, hcap1⟩ := hv.slice
  refine gives_ofk (fn := Try.f4) Try.func4 rfl Try.ntmps4 rfl (fun on => ?_)
  have hv : FrsC (Cel ⟨w0, [], []⟩) (.slice base1 l.length cap1) l := hv.mono fun p x h => ⟨h, by simp⟩
  repeat refine s_seqs ?_
  refine s_reg ?_
  refine step_pure rfl (pure_assign rfl) ?_
  refine Vc.step_end (fun a w ok => ?_)
  first | (refine WPs.run ?_ a w ok; clear ok w a) | skip
  repeat refine s_seqs ?_
  refine s_reg ?_
  refine step_gives rfl fun11 rfl (fun w _ _ => awake_any w) ?_
  refine step_pure rfl (pure_assign rfl) ?_
  refine Vc.step_end (fun a w ok => ?_)
  first | (refine WPs.run ?_ a w ok; clear ok w a) | skip
  repeat refine s_seqs ?_
  refine s_reg ?_
  refine step_pure rfl (pure_move rfl) ?_
  refine step_gives rfl fun12 rfl (fun w' hh kp => few_any l _ w' (hv.mono (fun p x h => h.now kp))) ?_
  refine step_pure rfl (pure_not rfl) ?_
  refine Vc.step_end (fun a w ok => ?_)
  first | (refine WPs.run ?_ a w ok; clear ok w a) | skip
  repeat refine s_seqs ?_
  refine s_cond rfl (fun h => ?_) (fun h => ?_)
  · repeat refine s_seqs ?_
    refine s_reg ?_
    refine step_pure rfl (pure_move rfl) ?_
    refine step_pure rfl (pure_assign rfl) ?_
    refine Vc.step_end (fun a w ok => ?_)
    first | (refine WPs.run ?_ a w ok; clear ok w a) | skip
    exact s_ret fun a w ok => ends_k on (.inr rfl) ok (res_tmp Try.results4 rfl)
  have hfl := few_in (fs := l) (by simpa using h)
  clear h
  refine s_skip fun a w ok => WPs.run ?_ a w ok
  clear ok w a
  repeat refine s_seqs ?_
  refine s_reg ?_
  refine step_pure rfl (pure_move rfl) ?_
  refine step_givesP on.sc rfl fun13 rfl (fun w' Z' hh kp hZ hC => write_P l _ w' hZ (hv.mono (fun p x h => h.now kp)) hbig) ?_
  rintro x E1 g ⟨v3, rfl, hw⟩
  replace on := on.next g
  replace hv := hv.mono g.mono
  clear g
  refine step_pure rfl (pure_move rfl) ?_
  refine step_pure rfl (pure_extract rfl rfl) ?_
  refine step_pure rfl (pure_extract rfl rfl) ?_
  refine step_pure rfl (pure_assign rfl) ?_
  refine step_pure rfl (pure_assign rfl) ?_
  refine Vc.step_end (fun a w ok => ?_)
  first | (refine WPs.run ?_ a w ok; clear ok w a) | skip
  repeat refine s_seqs ?_
  refine s_reg ?_
  refine step_pure rfl (pure_move rfl) ?_
  refine step_givesP on.sc rfl fun14 rfl (fun w' Z' hh kp hZ hC => rwrite_P l _ w' hZ (hv.mono (fun p x h => h.now kp)) hbig) ?_
  rintro x E2 g ⟨v4, rfl, hr⟩
  replace on := on.next g
  replace hv := hv.mono g.mono
  replace hw := hw.mono g.cz
  clear g
  refine step_pure rfl (pure_move rfl) ?_
  refine step_pure rfl (pure_extract rfl rfl) ?_
  refine step_pure rfl (pure_extract rfl rfl) ?_
  refine step_pure rfl (pure_assign rfl) ?_
  refine step_pure rfl (pure_assign rfl) ?_
  refine Vc.step_end (fun a w ok => ?_)
  first | (refine WPs.run ?_ a w ok; clear ok w a) | skip
  generalize (if wrOk l = true then (0 : Int) else 20) = gv at *
  repeat refine s_seqs ?_
  refine s_reg ?_
  refine step_pure rfl (pure_assign rfl) ?_
  refine Vc.step_end (fun a w ok => ?_)
  first | (refine WPs.run ?_ a w ok; clear ok w a) | skip
  repeat refine s_seqs ?_
  refine s_block ?_
  repeat refine s_seqs ?_
  refine s_loopP (α := Nat) (fun i => [(0, .slice base1 l.length cap1), (3, .bool true), (4, v3), (5, .int .i64 gv), (6, v4), (7, .int .i64 gv), (8, .int .i64 i)]) (fun _ => []) (fun i _ => i ≤ l.length) (fun i => l.length - i) 0 (Nat.zero_le _) (less_sub ⟨rfl, rfl, rfl, rfl, rfl, rfl, rfl, trivial⟩ (List.nil_sublist _)) ?_
  intro i E4 hi g
  replace on := on.next g
  replace hw := hw.mono g.cz
  replace hr := hr.mono g.cz
  replace hv := hv.mono g.mono
  clear g
  repeat refine s_seqs ?_
  refine s_reg ?_
  refine step_pure rfl (pure_move rfl) ?_
  refine step_pure rfl (pure_move rfl) ?_
  refine step_pure rfl (pure_len_slice rfl rfl rfl) ?_
  refine step_pure rfl (pure_lss rfl rfl) ?_
  refine Vc.step_end (fun a w ok => ?_)
  first | (refine WPs.run ?_ a w ok; clear ok w a) | skip
  repeat refine s_seqs ?_
  refine s_cond rfl (fun h => ?_) (fun h => ?_)
  · have hlt : i < l.length := by have := of_decide_eq_true h; omega
    clear h
    refine s_skip fun a w ok => WPs.run ?_ a w ok
    clear ok w a
    repeat refine s_seqs ?_
    refine s_block ?_
    obtain ⟨p, cp, cs, hq, hfc, hp⟩ := hv.at hlt
    cases hq
    have hdb := hbig _ (List.getElem_mem hlt)
    have h5 := hfc.five
    have c1 := fun w' kp => check_any l[i] cs w' (hfc.mono (fun p x h => h.now (w := w') kp)) hdb
    have c2 := fun w' kp => rcheck_any l[i] cs w' (hfc.mono (fun p x h => h.now (w := w') kp)) hdb
    have c3 := fun w' kp => eliciting_any l[i] cs w' (hfc.mono (fun p x h => h.now (w := w') kp)) hdb
    have c4 := fun w' kp => reliciting_any l[i] cs w' (hfc.mono (fun p x h => h.now (w := w') kp)) hdb
    generalize (if fok l[i] = true then (0 : Int) else 20) = ck at *
    generalize asks l[i] = ak at *
    repeat refine s_seqs ?_
    refine s_dreg [1, 9, 17, 27, 35, 41, 49, 57, 67, 75, 81, 89, 97, 105, 113, 123, 131, 137, 145, 153, 163, 171, 177, 185] [] follows (by kernel_rfl) ?_
    refine d_pure0 rfl rfl rfl (pure_move rfl) ?_
    refine d_pure0 rfl rfl rfl (pure_move rfl) ?_
    refine d_as0 rfl rfl rfl (pure_indexAddr_at rfl rfl rfl rfl rfl (by omega) (by omega)) (show _ = Value.pointer (some (p.add (i * 5))) from by show Value.pointer (some (p.add ((i : Int).toNat * 5))) = _; rw [Int.toNat_natCast]) ?_
    refine d_pure1 rfl rfl rfl (pure_cel_agg rfl rfl rfl h5 (fun j x hx => hp j x hx)) (by first | exact SubMem.refl _ | exact (SubMem.refl _).cons | exact (SubMem.refl _).cons.cons | exact (SubMem.refl _).cons.cons.cons | exact (SubMem.refl _).cons.cons.cons.cons | exact (fun w hh => Has.sublist (by repeat (first | exact List.Sublist.refl _ | exact List.nil_sublist _ | apply List.Sublist.cons_cons | apply List.Sublist.cons)) hh)) ?_
    refine d_gives rfl rfl rfl fun15 rfl (fun w' _ kp => c1 w' kp) (by first | exact SubMem.refl _ | exact (SubMem.refl _).cons | exact (SubMem.refl _).cons.cons | exact (SubMem.refl _).cons.cons.cons | exact (SubMem.refl _).cons.cons.cons.cons | exact (fun w hh => Has.sublist (by repeat (first | exact List.Sublist.refl _ | exact List.nil_sublist _ | apply List.Sublist.cons_cons | apply List.Sublist.cons)) hh)) ?_
    refine d_pure0 rfl rfl rfl (pure_move rfl) ?_
    refine d_pure0 rfl rfl rfl (pure_move rfl) ?_
    refine d_as0 rfl rfl rfl (pure_indexAddr_at rfl rfl rfl rfl rfl (by omega) (by omega)) (show _ = Value.pointer (some (p.add (i * 5))) from by show Value.pointer (some (p.add ((i : Int).toNat * 5))) = _; rw [Int.toNat_natCast]) ?_
    refine d_pure1 rfl rfl rfl (pure_cel_agg rfl rfl rfl h5 (fun j x hx => hp j x hx)) (by first | exact SubMem.refl _ | exact (SubMem.refl _).cons | exact (SubMem.refl _).cons.cons | exact (SubMem.refl _).cons.cons.cons | exact (SubMem.refl _).cons.cons.cons.cons | exact (fun w hh => Has.sublist (by repeat (first | exact List.Sublist.refl _ | exact List.nil_sublist _ | apply List.Sublist.cons_cons | apply List.Sublist.cons)) hh)) ?_
    refine d_gives rfl rfl rfl fun16 rfl (fun w' _ kp => c2 w' kp) (by first | exact SubMem.refl _ | exact (SubMem.refl _).cons | exact (SubMem.refl _).cons.cons | exact (SubMem.refl _).cons.cons.cons | exact (SubMem.refl _).cons.cons.cons.cons | exact (fun w hh => Has.sublist (by repeat (first | exact List.Sublist.refl _ | exact List.nil_sublist _ | apply List.Sublist.cons_cons | apply List.Sublist.cons)) hh)) ?_
    refine d_as0 rfl rfl rfl (pure_neq rfl rfl) (show _ = Value.bool false from by rw [bne_self_eq_false]) ?_
    refine d_pure0 rfl rfl rfl (pure_move rfl) ?_
    refine d_pure0 rfl rfl rfl (pure_move rfl) ?_
    refine d_pure0 rfl rfl rfl (pure_move rfl) ?_
    refine d_as0 rfl rfl rfl (pure_indexAddr_at rfl rfl rfl rfl rfl (by omega) (by omega)) (show _ = Value.pointer (some (p.add (i * 5))) from by show Value.pointer (some (p.add ((i : Int).toNat * 5))) = _; rw [Int.toNat_natCast]) ?_
    refine d_pure1 rfl rfl rfl (pure_cel_agg rfl rfl rfl h5 (fun j x hx => hp j x hx)) (by first | exact SubMem.refl _ | exact (SubMem.refl _).cons | exact (SubMem.refl _).cons.cons | exact (SubMem.refl _).cons.cons.cons | exact (SubMem.refl _).cons.cons.cons.cons | exact (fun w hh => Has.sublist (by repeat (first | exact List.Sublist.refl _ | exact List.nil_sublist _ | apply List.Sublist.cons_cons | apply List.Sublist.cons)) hh)) ?_
    refine d_gives rfl rfl rfl fun17 rfl (fun w' _ kp => c3 w' kp) (by first | exact SubMem.refl _ | exact (SubMem.refl _).cons | exact (SubMem.refl _).cons.cons | exact (SubMem.refl _).cons.cons.cons | exact (SubMem.refl _).cons.cons.cons.cons | exact (fun w hh => Has.sublist (by repeat (first | exact List.Sublist.refl _ | exact List.nil_sublist _ | apply List.Sublist.cons_cons | apply List.Sublist.cons)) hh)) ?_
    refine d_pure0 rfl rfl rfl (pure_move rfl) ?_
    refine d_pure0 rfl rfl rfl (pure_move rfl) ?_
    refine d_as0 rfl rfl rfl (pure_indexAddr_at rfl rfl rfl rfl rfl (by omega) (by omega)) (show _ = Value.pointer (some (p.add (i * 5))) from by show Value.pointer (some (p.add ((i : Int).toNat * 5))) = _; rw [Int.toNat_natCast]) ?_
    refine d_pure1 rfl rfl rfl (pure_cel_agg rfl rfl rfl h5 (fun j x hx => hp j x hx)) (by first | exact SubMem.refl _ | exact (SubMem.refl _).cons | exact (SubMem.refl _).cons.cons | exact (SubMem.refl _).cons.cons.cons | exact (SubMem.refl _).cons.cons.cons.cons | exact (fun w hh => Has.sublist (by repeat (first | exact List.Sublist.refl _ | exact List.nil_sublist _ | apply List.Sublist.cons_cons | apply List.Sublist.cons)) hh)) ?_
    refine d_gives rfl rfl rfl fun18 rfl (fun w' _ kp => c4 w' kp) (by first | exact SubMem.refl _ | exact (SubMem.refl _).cons | exact (SubMem.refl _).cons.cons | exact (SubMem.refl _).cons.cons.cons | exact (SubMem.refl _).cons.cons.cons.cons | exact (fun w hh => Has.sublist (by repeat (first | exact List.Sublist.refl _ | exact List.nil_sublist _ | apply List.Sublist.cons_cons | apply List.Sublist.cons)) hh)) ?_
    refine d_as0 rfl rfl rfl (pure_bneq rfl rfl rfl rfl) (show _ = Value.bool false from by rw [bne_self_eq_false]) ?_
    refine d_pure0 rfl rfl rfl (pure_pick_no rfl rfl) ?_
    refine d_end (fun a w ok => ?_)
    first | (refine WPs.run ?_ a w ok; clear ok w a) | skip
    repeat refine s_seqs ?_
    refine s_cond_no rfl rfl ?_
    refine s_skip fun a w ok => WPs.run ?_ a w ok
    clear ok w a
    repeat refine s_seqs ?_
    refine s_reg ?_
    refine step_pure rfl (pure_move rfl) ?_
    first | refine step_pure rfl (pure_add64 rfl rfl (by omega) (by omega)) ?_ | refine step_pure rfl (pure_add rfl rfl) ?_
    refine step_pure rfl (pure_assign rfl) ?_
    refine Vc.step_end (fun a w ok => ?_)
    refine ⟨i + 1, E4, hlt, by omega, Gt.refl _, Less.ok ?_ ok⟩
    exact less_sub ⟨rfl, rfl, rfl, rfl, rfl, rfl, rfl, trivial⟩ (List.nil_sublist _)
  · refine s_exit fun a w ok => WPs.run ?_ a w ok
    clear ok w a
    repeat refine s_seqs ?_
    refine s_reg ?_
    refine step_pure rfl (pure_move rfl) ?_
    refine step_pure rfl (pure_move rfl) ?_
    refine step_pure rfl (pure_move rfl) ?_
    refine step_pure rfl (pure_cz_string rfl rfl rfl rfl rfl rfl rfl hw) ?_
    refine step_pure rfl (pure_move rfl) ?_
    refine step_pure rfl (pure_cz_string rfl rfl rfl rfl rfl rfl rfl hr) ?_
    refine step_as rfl (pure_str_eql rfl rfl) (show _ = Value.bool true from by rw [beq_self_eq_true]) ?_
    refine step_pure rfl (pure_pick_yes rfl rfl) ?_
    refine step_pure rfl (pure_move rfl) ?_
    refine step_pure rfl (pure_move rfl) ?_
    refine step_pure rfl (pure_move rfl) ?_
    refine step_as rfl (pure_eql rfl rfl) (show _ = Value.bool true from by rw [beq_self_eq_true]) ?_
    refine step_pure rfl (pure_pick_yes rfl rfl) ?_
    refine step_pure rfl (pure_assign rfl) ?_
    refine Vc.step_end (fun a w ok => ?_)
    first | (refine WPs.run ?_ a w ok; clear ok w a) | skip
    exact s_ret fun a w ok => ends_k on (.inr rfl) ok (res_tmp Try.results4 rfl)
end Go.Proofs.Ytphpmallnlajjaa
