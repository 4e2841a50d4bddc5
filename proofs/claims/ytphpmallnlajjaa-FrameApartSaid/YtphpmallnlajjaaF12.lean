/- Frames' bytes: Write, walked. -/
import Derived.Test.YtphpmallnlajjaaF11
namespace Go.Proofs.Ytphpmallnlajjaa
open Go.RowKit Go.Vc
set_option linter.unusedVariables false

set_option maxHeartbeats 4000000 in
theorem write_any (fs : List Fr) (v : Value) (w : World) (hv : FrsC (fun p x => w.cell? p = some x) v fs) (hbig : ∀ f ∈ fs, f.data.length ≤ 9223372036854775807) :
    Makes tb 13 [v] w fun u m' => ∃ base len cap e, u = .tuple #[.slice base len cap, .int .i64 (if wrOk fs = true then 0 else 20)] ∧ m' = [e] ∧
      SlIs ty5 5 e base len cap (row (if wrOk fs = true then fs.flatMap fbytes else [])) := by
  obtain ⟨base0, cap0, rfl, hcap0⟩ := hv.slice
  refine makes_of (fn := Try.f13) Try.func13 rfl Try.ntmps13 rfl ?_
  repeat refine c_seq ?_
  refine c_region ?_
  refine step_pure rfl (pure_assign rfl) ?_
  refine step_hole ?_
  refine step_pure rfl (pure_assign rfl) ?_
  refine step_nil ?_
  repeat refine c_seq ?_
  refine c_region ?_
  refine step_pure rfl (pure_move rfl) ?_
  refine step_pure rfl (pure_len_slice rfl rfl rfl) ?_
  refine step_pure rfl (pure_gtr rfl rfl) ?_
  refine step_nil ?_
  repeat refine c_seq ?_
  refine c_cond rfl (fun h => ?_) (fun h => ?_)
  · have hno : wrOk fs = false := by
      have := of_decide_eq_true h
      unfold wrOk
      rw [show decide (fs.length ≤ 16) = false by simp; omega, Bool.false_and]
    rw [hno]
    repeat refine c_seq ?_
    refine c_region ?_
    refine step_pure rfl (pure_assign rfl) ?_
    refine step_pure rfl (pure_assign rfl) ?_
    refine step_nil ?_
    exact c_ret ⟨_, res_tmp2 Try.results13 rfl rfl, [hole], List.Sublist.refl _, none, 0, 0, hole, rfl, rfl, sl_nil _ _ (by decide)⟩
  · have h16 : fs.length ≤ 16 := by have := of_decide_eq_false h; omega
    clear h
    refine c_skip ?_
    repeat refine c_seq ?_
    refine c_region ?_
    refine step_pure rfl (pure_move rfl) ?_
    refine step_pure rfl (pure_len_slice rfl rfl rfl) ?_
    refine step_pure rfl (pure_move rfl) ?_
    refine step_nil ?_
    repeat refine c_seq ?_
    refine c_block ?_
    repeat refine c_seq ?_
    refine c_loop (α := SlS × Nat) (fun x => [(2, .slice x.1.base x.1.len x.1.cap), (11, .slice base0 fs.length cap0), (12, .int .i64 fs.length), (13, .int .i64 x.2)]) (fun x => [x.1.e])
      (fun x => x.2 ≤ fs.length ∧ (∀ f ∈ fs.take x.2, fok f = true) ∧ SlIs ty5 5 x.1.e x.1.base x.1.len x.1.cap (row ((fs.take x.2).flatMap fbytes))) (fun x => fs.length - x.2) (⟨none, 0, 0, hole⟩, 0)
      ⟨Nat.zero_le _, by simp, sl_nil _ _ (by decide)⟩ (less_of ⟨rfl, rfl, rfl, rfl, trivial⟩ rfl) ?_
    rintro ⟨⟨base, len, cap, e⟩, i⟩ ⟨hi, hall, hs⟩
    dsimp only at hi hall hs ⊢
    have hle := flatB_le _ hall
    rw [List.length_take] at hle
    have hlen := hs.len
    rw [row_len] at hlen
    have hlen' : ((fs.take i).flatMap fbytes).length = len := by rw [hlen]; exact Nat.mul_one _
    clear hlen
    repeat refine c_seq ?_
    refine c_region ?_
    refine step_pure rfl (pure_lss rfl rfl) ?_
    refine step_nil ?_
    repeat refine c_seq ?_
    refine c_cond rfl (fun h => ?_) (fun h => ?_)
    · have hlt : i < fs.length := by have := of_decide_eq_true h; omega
      clear h
      obtain ⟨p, cap1, cs, hq, hfc, hp⟩ := hv.at hlt
      cases hq
      have hfc' := fun w' (kp : Keep w w' []) => hfc.mono fun p x hp => cell_keep hp kp List.not_mem_nil
      have hsn := flatB_snoc fs i hlt
      have hnot := fun hz => wrOk_not hlt hz
      have hdb := hbig _ (List.getElem_mem hlt)
      have hmem : ∀ f ∈ fs.take (i + 1), f ∈ fs.take i ∨ f = fs[i] := by
        intro f hf
        rw [List.take_succ_eq_append_getElem hlt, List.mem_append] at hf
        rcases hf with hf | hf
        · exact .inl hf
        · exact .inr (by simpa using hf)
      have hcells : ∀ j x, cs[j]? = some x → Cel ⟨w, [], []⟩ ((p.add (i * 5)).add j) x := fun j x hx => ⟨hp j x hx, List.not_mem_nil⟩
      have h5 := hfc.five
      generalize fs[i] = f at *
      have hck := fun w' kp => check_any f _ w' (hfc' w' kp) hdb
      obtain ⟨rv, dv, rfl, hr0, hd0⟩ := hfc
      have hd1 := fun w' (kp : Keep w w' []) => slc_keep hd0 kp
      refine c_skip ?_
      repeat refine c_seq ?_
      refine c_block ?_
      repeat refine c_seq ?_
      refine c_region ?_
      refine step_as rfl (pure_indexAddr_at rfl rfl rfl rfl rfl (by omega) (by omega)) (show _ = Value.pointer (some (p.add (i * 5))) from by show Value.pointer (some (p.add ((i : Int).toNat * 5))) = _; rw [Int.toNat_natCast]) ?_
      refine step_pure rfl (pure_cel_agg rfl rfl rfl rfl hcells) ?_
      refine step_alloc rfl zero33 (fun b5 => ?_)
      refine step_store_agg 0 rfl rfl rfl ?_ rfl rfl rfl rfl (by show 5 ≤ 5; decide) (splice_all rfl) ?_
      · intro v hv
        obtain ⟨_, _, rfl, _⟩ := hr0
        obtain ⟨_, _, rfl, _⟩ := hd0
        simp at hv
        rcases hv with rfl | rfl | rfl | rfl | rfl <;> rfl
      refine step_nil ?_
      repeat refine c_seq ?_
      refine c_region ?_
      refine step_pure rfl (pure_load_agg (i := 0) rfl rfl rfl rfl rfl (by show 5 ≤ 5; decide) rfl) ?_
      refine step_gives rfl fun15 rfl (fun w' _ kp => hck w' kp) ?_
      refine step_pure rfl (pure_assign rfl) ?_
      refine step_nil ?_
      by_cases hk : fok f = true
      · have hrl := (fok_in hk).2.2.2.2.2.2.1
        have hpad := (fok_in hk).2.2.2.2.2.2.2.2.1
        have hfl := fbytes_le hk
        have hdl := (fok_in hk).2.2.2.2.2.2.2.1
        have hnum := fun w' kp => numbers_any f _ w' (hfc' w' kp) (by omega) (by omega)
        have hnl := fnums_len f
        have hjo := nums_join hk
        have hfb : fbytes f = (fnums f).flatMap vb ++ f.data ++ (if f.kind = 0 then zeros f.a.toNat else []) := rfl
        have hA := flat_le (fnums f)
        generalize fnums f = ns at hnum hnl hjo hfb hA
        rw [if_pos hk]
        repeat refine c_seq ?_
        refine c_region ?_
        refine step_pure rfl (pure_move rfl) ?_
        refine step_as rfl (pure_neq rfl rfl) (show _ = Value.bool false from rfl) ?_
        refine step_nil ?_
        repeat refine c_seq ?_
        refine c_cond_no rfl rfl ?_
        refine c_skip ?_
        repeat refine c_seq ?_
        refine c_region ?_
        refine step_pure rfl (pure_load_agg (i := 0) rfl rfl rfl rfl rfl (by show 5 ≤ 5; decide) rfl) ?_
        refine step_makes rfl fun23 rfl (fun w' _ kp => hnum w' kp) ?_
        rintro u m' ⟨bn, cn, en, rfl, rfl, hsn1⟩
        refine step_makes rfl fun22 rfl (fun w' hh kp => join_any ns _ w' (slis_now (j := 0) hsn1 rfl w' hh kp) (by omega)) ?_
        rintro u m' ⟨bj, lj, cj, ej, rfl, rfl, hsj⟩
        rw [if_pos hjo] at hsj ⊢
        have hlj := hsj.len
        rw [row_len] at hlj
        have hlj' : (ns.flatMap vb).length = lj := by rw [hlj]; exact Nat.mul_one _
        clear hlj
        refine step_pure rfl (pure_move rfl) ?_
        refine step_pure rfl (pure_extract rfl rfl) ?_
        refine step_pure rfl (pure_extract rfl rfl) ?_
        refine step_pure rfl (pure_assign rfl) ?_
        refine step_pure rfl (pure_assign rfl) ?_
        refine step_nil ?_
        repeat refine c_seq ?_
        refine c_region ?_
        refine step_pure rfl (pure_move rfl) ?_
        refine step_as rfl (pure_neq rfl rfl) (show _ = Value.bool false from rfl) ?_
        refine step_nil ?_
        repeat refine c_seq ?_
        refine c_cond_no rfl rfl ?_
        refine c_skip ?_
        obtain ⟨db, dc, rfl, -, -, -⟩ := id hd0
        repeat refine c_seq ?_
        refine d_region2 [1, 9, 25, 35, 21, 44, 49] ([⟨b5, [.int .i64 f.kind, .int .i64 f.a, .int .i64 f.b, rv, .slice db f.data.length dc], 33⟩]) follows (by kernel_rfl) ?_
        refine d_pure0 rfl rfl rfl (pure_move rfl) ?_
        refine d_pure0 rfl rfl rfl (pure_move rfl) ?_
        refine d_pure0 rfl rfl rfl (pure_fieldAddr rfl rfl rfl rfl rfl (by decide)) ?_
        first | refine d_pure1 rfl rfl rfl (pure_load (i := 0) rfl rfl rfl rfl rfl rfl) (by first | exact SubMem.refl _ | exact (SubMem.refl _).cons | exact (SubMem.refl _).cons.cons | exact (SubMem.refl _).cons.cons.cons | exact (SubMem.refl _).cons.cons.cons.cons | exact (fun w hh => Has.sublist (by repeat (first | exact List.Sublist.refl _ | exact List.nil_sublist _ | apply List.Sublist.cons_cons | apply List.Sublist.cons)) hh)) ?_ | refine d_pure1 rfl rfl rfl (pure_load (i := 1) rfl rfl rfl rfl rfl rfl) (by first | exact SubMem.refl _ | exact (SubMem.refl _).cons | exact (SubMem.refl _).cons.cons | exact (SubMem.refl _).cons.cons.cons | exact (SubMem.refl _).cons.cons.cons.cons | exact (fun w hh => Has.sublist (by repeat (first | exact List.Sublist.refl _ | exact List.nil_sublist _ | apply List.Sublist.cons_cons | apply List.Sublist.cons)) hh)) ?_ | refine d_pure1 rfl rfl rfl (pure_load (i := 2) rfl rfl rfl rfl rfl rfl) (by first | exact SubMem.refl _ | exact (SubMem.refl _).cons | exact (SubMem.refl _).cons.cons | exact (SubMem.refl _).cons.cons.cons | exact (SubMem.refl _).cons.cons.cons.cons | exact (fun w hh => Has.sublist (by repeat (first | exact List.Sublist.refl _ | exact List.nil_sublist _ | apply List.Sublist.cons_cons | apply List.Sublist.cons)) hh)) ?_ | refine d_pure1 rfl rfl rfl (pure_load (i := 3) rfl rfl rfl rfl rfl rfl) (by first | exact SubMem.refl _ | exact (SubMem.refl _).cons | exact (SubMem.refl _).cons.cons | exact (SubMem.refl _).cons.cons.cons | exact (SubMem.refl _).cons.cons.cons.cons | exact (fun w hh => Has.sublist (by repeat (first | exact List.Sublist.refl _ | exact List.nil_sublist _ | apply List.Sublist.cons_cons | apply List.Sublist.cons)) hh)) ?_ | refine d_pure1 rfl rfl rfl (pure_load (i := 4) rfl rfl rfl rfl rfl rfl) (by first | exact SubMem.refl _ | exact (SubMem.refl _).cons | exact (SubMem.refl _).cons.cons | exact (SubMem.refl _).cons.cons.cons | exact (SubMem.refl _).cons.cons.cons.cons | exact (fun w hh => Has.sublist (by repeat (first | exact List.Sublist.refl _ | exact List.nil_sublist _ | apply List.Sublist.cons_cons | apply List.Sublist.cons)) hh)) ?_ | refine d_pure1 rfl rfl rfl (pure_load (i := 5) rfl rfl rfl rfl rfl rfl) (by first | exact SubMem.refl _ | exact (SubMem.refl _).cons | exact (SubMem.refl _).cons.cons | exact (SubMem.refl _).cons.cons.cons | exact (SubMem.refl _).cons.cons.cons.cons | exact (fun w hh => Has.sublist (by repeat (first | exact List.Sublist.refl _ | exact List.nil_sublist _ | apply List.Sublist.cons_cons | apply List.Sublist.cons)) hh)) ?_
        refine d_append2 3 rfl rfl rfl rfl hs rfl rfl rfl rfl rfl elem5 rfl (by decide) rfl rfl hsj.len (src_own (j := 0) hsj rfl) (row_one _) (by omega) (by omega) rfl (fun e' w hh => Has.sublist (by repeat (first | exact List.Sublist.refl _ | exact List.nil_sublist _ | apply List.Sublist.cons_cons | apply List.Sublist.cons)) hh) (fun base1 cap1 e1 hs1 => ?_)
        refine d_append 3 rfl rfl rfl rfl rfl hs1 rfl rfl rfl rfl rfl elem5 rfl (by decide) rfl rfl (by rw [row_len]; exact (Nat.mul_one _).symm) (src_slc fun w' _ kp => hd1 w' kp) (row_one _) (by omega) (by omega) rfl (fun base2 cap2 e2 hs2 => ?_)
        rw [row_app, row_app] at hs2
        refine d_pure0 rfl rfl rfl (pure_assign rfl) ?_
        refine d_nil ?_
        repeat refine c_seq ?_
        refine c_region ?_
        refine step_pure rfl (pure_fieldAddr rfl rfl rfl rfl rfl (by decide)) ?_
        first | refine step_pure rfl (pure_load (i := 0) rfl rfl rfl rfl rfl rfl) ?_ | refine step_pure rfl (pure_load (i := 1) rfl rfl rfl rfl rfl rfl) ?_ | refine step_pure rfl (pure_load (i := 2) rfl rfl rfl rfl rfl rfl) ?_ | refine step_pure rfl (pure_load (i := 3) rfl rfl rfl rfl rfl rfl) ?_ | refine step_pure rfl (pure_load (i := 4) rfl rfl rfl rfl rfl rfl) ?_ | refine step_pure rfl (pure_load (i := 5) rfl rfl rfl rfl rfl rfl) ?_
        refine step_pure rfl (pure_eql rfl rfl) ?_
        refine step_nil ?_
        have hfin : ∀ {B C : List Int} {b2 : Option Addr} {l2 c2 : Nat} {e2 : Ent}, SlIs ty5 5 e2 b2 l2 c2 (row B) → B = C → SlIs ty5 5 e2 b2 l2 c2 (row C) := fun h e => e ▸ h
        repeat refine c_seq ?_
        refine c_meetx (α := SlS) (fun z => [(2, .slice z.base z.len z.cap), (11, .slice (some p) fs.length cap0), (12, .int .i64 fs.length), (13, .int .i64 i)]) (fun z => [z.e])
          (fun z => SlIs ty5 5 z.e z.base z.len z.cap (row ((fs.take (i + 1)).flatMap fbytes))) ?_ ?_
        · repeat refine c_seq ?_
          refine c_cond rfl (fun h => ?_) (fun h => ?_)
          · have h0 : f.kind = 0 := eq_of_beq h
            have hpa := hpad h0
            obtain ⟨k, hka⟩ : ∃ k : Nat, f.a = k := ⟨f.a.toNat, by omega⟩
            rw [hka]
            rw [if_pos h0, hka, Int.toNat_natCast] at hfb
            repeat refine c_seq ?_
            refine c_region ?_
            refine step_pure rfl (pure_move rfl) ?_
            refine step_pure rfl (pure_fieldAddr rfl rfl rfl rfl rfl (by decide)) ?_
            first | refine step_pure rfl (pure_load (i := 0) rfl rfl rfl rfl rfl rfl) ?_ | refine step_pure rfl (pure_load (i := 1) rfl rfl rfl rfl rfl rfl) ?_ | refine step_pure rfl (pure_load (i := 2) rfl rfl rfl rfl rfl rfl) ?_ | refine step_pure rfl (pure_load (i := 3) rfl rfl rfl rfl rfl rfl) ?_ | refine step_pure rfl (pure_load (i := 4) rfl rfl rfl rfl rfl rfl) ?_ | refine step_pure rfl (pure_load (i := 5) rfl rfl rfl rfl rfl rfl) ?_
            refine step_append_z (k := k) 3 rfl rfl hs2 rfl rfl rfl rfl rfl elem5 rfl (by decide) rfl (by omega) (by intro v hv; simp at hv; subst hv; rfl) (by omega) (by omega) (fun base3 cap3 e3 hs3 => ?_)
            refine step_pure rfl (pure_assign rfl) ?_
            refine step_nil ?_
            rw [zrow_u8, row_app] at hs3
            exact ⟨⟨base3, _, cap3, e3⟩, hfin hs3 (by rw [hsn, hfb]; simp [List.append_assoc]), less_sub ⟨rfl, rfl, rfl, rfl, trivial⟩ (by repeat (first | exact List.Sublist.refl _ | exact List.nil_sublist _ | apply List.Sublist.cons_cons | apply List.Sublist.cons))⟩
          · have h0 : f.kind ≠ 0 := ne_of_beq_false h
            rw [if_neg h0, List.append_nil] at hfb
            exact c_skip ⟨⟨base2, _, cap2, e2⟩, hfin hs2 (by rw [hsn, hfb]; simp [List.append_assoc]), less_sub ⟨rfl, rfl, rfl, rfl, trivial⟩ (by repeat (first | exact List.Sublist.refl _ | exact List.nil_sublist _ | apply List.Sublist.cons_cons | apply List.Sublist.cons))⟩
        rintro ⟨base3, len3, cap3, e3⟩ hs3
        dsimp only at hs3 ⊢
        repeat refine c_seq ?_
        refine c_region ?_
        first | refine step_pure rfl (pure_add64 rfl rfl (by omega) (by omega)) ?_ | refine step_pure rfl (pure_add rfl rfl) ?_
        refine step_pure rfl (pure_move rfl) ?_
        refine step_nil ?_
        refine ⟨(⟨base3, len3, cap3, e3⟩, i + 1), ⟨hlt, fun x hx => ?_, hs3⟩, by dsimp only; omega, less_of ⟨rfl, rfl, rfl, rfl, trivial⟩ rfl⟩
        rcases hmem x hx with h | h
        · exact hall x h
        · rw [h]; exact hk
      · rw [hnot (by simpa using hk), if_neg hk]
        repeat refine c_seq ?_
        refine c_region ?_
        refine step_pure rfl (pure_move rfl) ?_
        refine step_as rfl (pure_neq rfl rfl) (show _ = Value.bool true from rfl) ?_
        refine step_nil ?_
        repeat refine c_seq ?_
        refine c_cond_yes rfl rfl ?_
        repeat refine c_seq ?_
        refine c_region ?_
        refine step_pure rfl (pure_move rfl) ?_
        refine step_hole ?_
        refine step_pure rfl (pure_assign rfl) ?_
        refine step_pure rfl (pure_assign rfl) ?_
        refine step_nil ?_
        exact c_ret ⟨_, res_tmp2 Try.results13 rfl rfl, [hole], List.Sublist.cons_cons _ (List.nil_sublist _), none, 0, 0, hole, rfl, rfl, sl_nil _ _ (by decide)⟩
    · have hie : i = fs.length := by have := of_decide_eq_false h; omega
      clear h
      rw [hie, List.take_length] at hs hall
      have hyes : wrOk fs = true := by
        unfold wrOk
        rw [Bool.and_eq_true, List.all_eq_true]
        exact ⟨by simpa using h16, hall⟩
      rw [hyes]
      refine c_exit ?_
      repeat refine c_seq ?_
      refine c_region ?_
      refine step_pure rfl (pure_move rfl) ?_
      refine step_pure rfl (pure_assign rfl) ?_
      refine step_pure rfl (pure_assign rfl) ?_
      refine step_nil ?_
      exact c_ret ⟨_, res_tmp2 Try.results13 rfl rfl, [e], List.Sublist.refl _, base, len, cap, e, rfl, rfl, hs⟩
end Go.Proofs.Ytphpmallnlajjaa
