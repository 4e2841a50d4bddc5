/- The document's Read; the law FrameReads: walked. -/
import Derived.Test.YtphpmallnlajjaaF33
import Derived.Test.YtphpmallnlajjaaF29
namespace Go.Proofs.Ytphpmallnlajjaa
open Go.RowKit Go.Vc
set_option linter.unusedVariables false

theorem rdR_mono (b : List Int) : ∀ v (C C' : Addr → Value → Prop), (∀ p x, C p x → C' p x) → RdR b v C → RdR b v C' := by
  rintro u C C' hC ⟨v, rfl, hs⟩
  exact ⟨v, rfl, hs.mono hC⟩
theorem rdR_no {b : List Int} {C : Addr → Value → Prop} (h : rdAll b = none) : RdR b (.tuple #[.slice none 0 0, .int .i64 20]) C := by
  refine ⟨_, by rw [h]; rfl, ?_⟩
  rw [h]
  exact ⟨[], rfl, by simp, slc_nil⟩
theorem rdGo_no {k : Nat} {b : List Int} {l : List Fr} (h0 : b.length ≠ 0) (h : oneP b = none ∨ l.length = 16) : rdGo (k + 1) b l = none := by
  unfold rdGo
  rw [if_neg h0]
  refine if_pos ?_
  rcases h with h | h
  · unfold oneP at h
    split at h
    · cases h
    · rename_i hn
      cases hz : (rdZ (b, false)).2 with
      | true => rfl
      | false =>
        have : fok (rdFrame (b, false)) = false := by
          cases hf : fok (rdFrame (b, false)) with
          | false => rfl
          | true => exact absurd ⟨hz, hf⟩ hn
        rw [this]
        rfl
  · rw [h]
    simp
theorem rdGo_yes {k : Nat} {b : List Int} {l : List Fr} {f : Fr} (hb : Bytes b) (h0 : b.length ≠ 0) (h : oneP b = some f) (hl : l.length ≠ 16) : rdGo (k + 1) b l = rdGo k (b.drop (fbytes f).length) (l ++ [f]) := by
  obtain ⟨h1, h2⟩ := oneP_in hb h
  have h3 := h
  unfold oneP at h
  split at h
  · rename_i hn
    cases h
    show (if b.length = 0 then some l else _) = _
    rw [if_neg h0, if_neg (by rw [hn.1, hn.2]; simp; omega)]
    congr 1
    have := congrArg (List.drop (fbytes (rdFrame (b, false))).length) h2
    rw [List.drop_left] at this
    exact this.symm
  · cases h
structure RrX where
  b : List Int
  base : Option Addr
  cap : Nat
  fs : List Fr
  css : List (List Value)
  sb : Option Addr
  sc : Nat
  se : Ent
structure RrX.Ok (x : RrX) (b : List Int) (Z : Nat → Prop) (E : Env) : Prop where
  n16 : x.fs.length ≤ 16
  go : rdGo (17 - x.fs.length) x.b x.fs = rdAll b
  bs : SlC (Cel E) 1 (.slice x.base x.b.length x.cap) x.b.length (row x.b)
  by_ : Bytes x.b
  le : x.b.length ≤ b.length
  cl : x.css.length = x.fs.length
  fr : ∀ (i : Nat) (f : Fr) (cs : List Value), x.fs[i]? = some f → x.css[i]? = some cs → FrC (Cz Z E) f cs
  sl : SlIs ty33 33 x.se x.sb x.fs.length x.sc x.css.flatten

set_option maxHeartbeats 4000000 in
theorem rread_P (b : List Int) (v : Value) (w : World) {Z : Nat → Prop} (hZ : ∀ b, w.heap.size ≤ b → Z b) (hv : SlC (At w) 1 v b.length (row b)) (hb : Bytes b) (hle : b.length ≤ 1000000) : GivesP tb 20 [v] w Z (RdR b) := by
  have hv : SlC (Cel ⟨w, [], []⟩) 1 v b.length (row b) := hv.mono fun p x h => ⟨h, by simp⟩
  obtain ⟨base1, cap1, rfl, hcap1⟩ := slc_str hv
  refine givesP_of (fn := Try.f20) Try.func20 rfl Try.ntmps20 rfl hZ (rdR_mono b) (fun on => ?_)
  repeat refine s_seqs ?_
  refine s_reg ?_
  refine step_pure rfl (pure_assign rfl) ?_
  refine step_pure rfl (pure_assign rfl) ?_
  refine Vc.step_end (fun a w ok => ?_)
  first | (refine WPs.run ?_ a w ok; clear ok w a) | skip
  repeat refine s_seqs ?_
  refine s_reg ?_
  refine step_pure rfl (pure_assign rfl) ?_
  refine step_hole ?_
  refine Vc.step_end (fun a w ok => ?_)
  first | (refine WPs.run ?_ a w ok; clear ok w a) | skip
  repeat refine s_seqs ?_
  refine s_block ?_
  repeat refine s_seqs ?_
  refine s_loopP (α := RrX) (fun x => [(0, .slice x.base x.b.length x.cap), (4, .slice x.sb x.fs.length x.sc)]) (fun x => [x.se]) (fun x E => x.Ok b Z E) (fun x => 17 - x.fs.length) ⟨b, base1, cap1, [], [], none, 0, hole⟩
    ⟨Nat.zero_le _, rfl, hv, hb, Nat.le_refl _, rfl, by simp, sl_nil _ _ (by decide)⟩ (less_of ⟨rfl, rfl, trivial⟩ rfl) ?_
  clear hv
  rintro ⟨b1, base, cap, fs, css, sb, sc, se⟩ E1 ⟨h16, hgo, hv, hb1, hle1, hcl, hfr, hs⟩ g
  dsimp only at h16 hgo hv hb1 hle1 hcl hfr hs ⊢
  replace on := on.next g
  clear g
  obtain ⟨k, hk⟩ : ∃ k, 17 - fs.length = k + 1 := ⟨16 - fs.length, by omega⟩
  rw [hk] at hgo ⊢
  repeat refine s_seqs ?_
  refine s_reg ?_
  refine step_pure rfl (pure_move rfl) ?_
  refine step_pure rfl (pure_len_slice rfl rfl rfl) ?_
  refine step_pure rfl (pure_gtr rfl rfl) ?_
  refine Vc.step_end (fun a w ok => ?_)
  first | (refine WPs.run ?_ a w ok; clear ok w a) | skip
  repeat refine s_seqs ?_
  refine s_cond rfl (fun h => ?_) (fun h => ?_)
  · have h0 : b1.length ≠ 0 := by have := of_decide_eq_true h; omega
    clear h
    refine s_skip fun a w ok => WPs.run ?_ a w ok
    clear ok w a
    repeat refine s_seqs ?_
    refine s_block ?_
    have hone := fun f => oneP_in (b := b1) (f := f) hb1
    have hrn := fun h => rdGo_no (k := k) (l := fs) h0 h
    have hry := fun f => rdGo_yes (k := k) (l := fs) (f := f) hb1 h0
    repeat refine s_seqs ?_
    refine s_reg ?_
    refine step_pure rfl (pure_move rfl) ?_
    refine step_givesP on.sc rfl fun32 rfl (fun w' Z' hh kp hZ hC => one_P b1 _ w' hZ (hv.mono fun p x h => h.now kp) hb1 (by omega)) ?_
    rintro u E2 g hu
    replace on := on.next g
    replace hv := hv.mono g.mono
    replace hfr := fun i f cs h1 h2 => (hfr i f cs h1 h2).mono g.cz
    unfold OneR at hu
    cases ho : oneP b1 with
    | none =>
      rw [ho] at hu
      obtain ⟨cs, hcs5, hcs1, rfl⟩ := hu
      have hno : rdAll b = none := hgo.symm.trans (hrn (.inl ho))
      refine step_pure rfl (pure_move rfl) ?_
      refine step_pure rfl (pure_extract rfl rfl) ?_
      refine step_pure rfl (pure_extract rfl rfl) ?_
      refine step_alloc rfl zero33 (fun b5 => ?_)
      refine step_store_agg 0 rfl rfl rfl hcs1 rfl hcs5 rfl rfl (Nat.le_of_ble_eq_true rfl) (splice_all hcs5) ?_
      refine step_pure rfl (pure_assign rfl) ?_
      refine Vc.step_end (fun a w ok => ?_)
      first | (refine WPs.run ?_ a w ok; clear ok w a) | skip
      repeat refine s_seqs ?_
      refine s_reg ?_
      refine step_pure rfl (pure_move rfl) ?_
      refine step_pure rfl (pure_lss rfl rfl) ?_
      refine step_pure rfl (pure_move rfl) ?_
      refine step_pass rfl rfl rfl ?_
      refine step_pass rfl rfl rfl ?_
      refine step_pass rfl rfl rfl ?_
      refine step_pure rfl (pure_pick_yes rfl rfl) ?_
      refine Vc.step_end (fun a w ok => ?_)
      first | (refine WPs.run ?_ a w ok; clear ok w a) | skip
      repeat refine s_seqs ?_
      refine s_cond_yes rfl rfl ?_
      repeat refine s_seqs ?_
      refine s_reg ?_
      refine step_pure rfl (pure_assign rfl) ?_
      refine step_pure rfl (pure_assign rfl) ?_
      refine Vc.step_end (fun a w ok => ?_)
      first | (refine WPs.run ?_ a w ok; clear ok w a) | skip
      exact s_ret fun a w ok => ends_givesP on (.inr rfl) ok (res_tmp2 Try.results20 rfl rfl) (rdR_mono b) (rdR_no hno)
    | some f =>
      rw [ho] at hu
      obtain ⟨cs, rfl, hfc⟩ := hu
      obtain ⟨hok, hbe⟩ := hone f ho
      have hbl : (fbytes f).length ≤ b1.length := by rw [hbe, List.length_append]; omega
      have hfne := fbytes_ne f hok []
      rw [List.append_nil] at hfne
      have hfc' := hfc
      obtain ⟨rv, dv, rfl, ⟨rb, rc, rfl, hr⟩, ⟨db, dc, rfl, hd⟩⟩ := hfc
      clear hr hd
      refine step_pure rfl (pure_move rfl) ?_
      refine step_pure rfl (pure_extract rfl rfl) ?_
      refine step_pure rfl (pure_extract rfl rfl) ?_
      refine step_alloc rfl zero33 (fun b5 => ?_)
      refine step_store_agg 0 rfl rfl rfl (of_one rfl) rfl rfl rfl rfl (Nat.le_of_ble_eq_true rfl) (splice_all rfl) ?_
      refine step_pure rfl (pure_assign rfl) ?_
      refine Vc.step_end (fun a w ok => ?_)
      first | (refine WPs.run ?_ a w ok; clear ok w a) | skip
      repeat refine s_seqs ?_
      refine s_meet [(0, .slice base b1.length cap), (4, .slice sb fs.length sc), (5, .pointer (some ⟨b5, 0, none⟩)), (6, .int .i64 ((fbytes f).length : Int)), (21, .bool (decide (fs.length = 16)))] [⟨b5, [.int .i64 f.kind, .int .i64 f.a, .int .i64 f.b, .slice rb f.rs.length rc, .slice db f.data.length dc], 33⟩, se] ?_ (fun a w ok => WPs.run ?_ a w ok)
      · have h16' : ((fs.length : Int) == 16) = decide (fs.length = 16) := by
          rw [Bool.eq_iff_iff, decide_eq_true_iff, beq_iff_eq]
          omega
        repeat refine c_seq ?_
        refine c_region ?_
        refine step_pure rfl (pure_move rfl) ?_
        refine step_as rfl (pure_lss rfl rfl) (show _ = Value.bool false from by rw [decide_eq_false (by omega)]) ?_
        refine step_pure rfl (pure_move rfl) ?_
        refine step_pure rfl (pure_move rfl) ?_
        refine step_pure rfl (pure_len_slice rfl rfl rfl) ?_
        refine step_as rfl (pure_eql rfl rfl) (show _ = Value.bool (decide (fs.length = 16)) from by rw [h16']) ?_
        refine step_pure rfl (pure_pick_no rfl rfl) ?_
        refine step_nil ?_
        exact less_of ⟨rfl, rfl, rfl, rfl, rfl, trivial⟩ rfl
      by_cases hl16 : fs.length = 16
      · rw [decide_eq_true hl16]
        repeat refine s_seqs ?_
        refine s_cond_yes rfl rfl ?_
        have hno : rdAll b = none := hgo.symm.trans (hrn (.inr hl16))
        repeat refine s_seqs ?_
        refine s_reg ?_
        refine step_pure rfl (pure_assign rfl) ?_
        refine step_pure rfl (pure_assign rfl) ?_
        refine Vc.step_end (fun a w ok => ?_)
        first | (refine WPs.run ?_ a w ok; clear ok w a) | skip
        exact s_ret fun a w ok => ends_givesP on (.inr rfl) ok (res_tmp2 Try.results20 rfl rfl) (rdR_mono b) (rdR_no hno)
      · rw [decide_eq_false hl16]
        repeat refine s_seqs ?_
        refine s_cond_no rfl rfl ?_
        refine s_skip fun a w ok => WPs.run ?_ a w ok
        clear ok w a
        have hsub := slc_sub (lo := (fbytes f).length) (hi := b1.length) hv hbl (Nat.le_refl _)
        have hdl : (b1.drop (fbytes f).length).length = b1.length - (fbytes f).length := List.length_drop
        rw [Nat.mul_one, Nat.mul_one, show ((row b1).drop (fbytes f).length).take (b1.length - (fbytes f).length) = row (b1.drop (fbytes f).length) from by
          rw [List.take_of_length_le (by rw [List.length_drop, row_len]; omega)]; exact (List.map_drop ..).symm, ← hdl] at hsub
        obtain ⟨base', cap', hsb, hcap'⟩ := slc_str hsub
        rw [hsb] at hsub
        repeat refine s_seqs ?_
        refine s_reg ?_
        refine step_pure rfl (pure_move rfl) ?_
        refine step_pure rfl (pure_load_agg (i := 0) rfl rfl rfl rfl rfl (Nat.le_of_ble_eq_true rfl) rfl) ?_
        refine step_buildSlice rfl rfl rfl rfl elem33 (by decide) (by decide) (fill_fr _ _ _ _ _) (fun b24 => ?_)
        refine step_append 2 rfl rfl hs rfl rfl rfl rfl rfl elem33 rfl (by decide) rfl rfl rfl (src_own (j := 0) (sl_built ty33 33 b24 [.int .i64 f.kind, .int .i64 f.a, .int .i64 f.b, .slice rb f.rs.length rc, .slice db f.data.length dc] 1 rfl) rfl) (of_one rfl) (by omega) (by omega) (fun sb' sc' se' hs' => ?_)
        refine step_pure rfl (pure_assign rfl) ?_
        refine Vc.step_end (fun a w ok => ?_)
        first | (refine WPs.run ?_ a w ok; clear ok w a) | skip
        repeat refine s_seqs ?_
        refine s_reg ?_
        refine step_pure rfl (pure_move rfl) ?_
        refine step_pure rfl (pure_move rfl) ?_
        refine step_as rfl (pure_sub_lo rfl rfl rfl rfl rfl (by omega) (by omega)) (show _ = Value.slice base' (b1.drop (fbytes f).length).length cap' from by rw [← hsb]; show subS base cap 1 ((fbytes f).length : Int).toNat b1.length = _; rw [Int.toNat_natCast]) ?_
        refine step_pure rfl (pure_assign rfl) ?_
        refine Vc.step_end (fun a w ok => ?_)
        refine ⟨⟨b1.drop (fbytes f).length, base', cap', fs ++ [f], css ++ [[.int .i64 f.kind, .int .i64 f.a, .int .i64 f.b, .slice rb f.rs.length rc, .slice db f.data.length dc]], sb', sc', se'⟩, E2, ⟨?_, ?_, hsub, fun y hy => hb1 y (List.mem_of_mem_drop hy), ?_, ?_, ?_, ?_⟩, ?_, g, Less.ok ?_ ok⟩
        · dsimp only; rw [List.length_append, List.length_singleton]; omega
        · dsimp only
          rw [List.length_append, List.length_singleton, show 17 - (fs.length + 1) = k by omega, ← hry f ho hl16]
          exact hgo
        · dsimp only; rw [hdl]; omega
        · dsimp only; rw [List.length_append, List.length_append, hcl]; rfl
        · dsimp only
          refine frc_app hcl hfr ?_
          intro i f' cs' h1 h2
          cases i with
          | zero => cases h1; cases h2; exact hfc'
          | succ i => simp at h1
        · dsimp only
          rw [List.length_append, List.length_singleton, List.flatten_append, List.flatten_cons, List.flatten_nil, List.append_nil]
          exact hs'
        · dsimp only; rw [List.length_append, List.length_singleton]; omega
        dsimp only
        rw [List.length_append, List.length_singleton]
        exact less_sub ⟨rfl, rfl, trivial⟩ (by repeat (first | exact List.Sublist.refl _ | exact List.nil_sublist _ | apply List.Sublist.cons_cons | apply List.Sublist.cons))
  · have h0 : b1.length = 0 := by have := of_decide_eq_false h; omega
    have hall : rdAll b = some fs := by
      rw [← hgo]
      unfold rdGo
      rw [if_pos h0]
    refine s_exit fun a w ok => WPs.run ?_ a w ok
    clear ok w a
    repeat refine s_seqs ?_
    refine s_reg ?_
    refine step_pure rfl (pure_move rfl) ?_
    refine step_pure rfl (pure_assign rfl) ?_
    refine step_pure rfl (pure_assign rfl) ?_
    refine Vc.step_end (fun a w ok => ?_)
    first | (refine WPs.run ?_ a w ok; clear ok w a) | skip
    refine s_let 0 rfl (fun E5 g5 hc => ?_)
    refine s_ret fun a w ok => ends_givesP (on.next g5) (.inr rfl) ok (res_tmp2 Try.results20 rfl rfl) (rdR_mono b) ⟨_, by rw [hall]; rfl, ?_⟩
    rw [hall]
    exact ⟨css, hcl, fun i f cs h1 h2 => (hfr i f cs h1 h2).mono g5.cz, slis_cz hs (hc _ on.sc)⟩

set_option maxHeartbeats 4000000 in
theorem framereads_any (b : List Int) (v : Value) (w0 : World) (hv : SlC (At w0) 1 v b.length (row b)) (hb : Bytes b) : Gives tb 5 [v] w0 (.bool true) := by
  obtain ⟨base1, cap1, rfl, hcap1⟩ := slc_str hv
  refine gives_ofk (fn := Try.f5) Try.func5 rfl Try.ntmps5 rfl (fun on => ?_)
  have hv : SlC (Cel ⟨w0, [], []⟩) 1 (.slice base1 b.length cap1) b.length (row b) := hv.mono fun p x h => ⟨h, by simp⟩
  repeat refine s_seqs ?_
  refine s_reg ?_
  refine step_pure rfl (pure_assign rfl) ?_
  refine Vc.step_end (fun a w ok => ?_)
  first | (refine WPs.run ?_ a w ok; clear ok w a) | skip
  repeat refine s_seqs ?_
  refine s_reg ?_
  refine step_gives rfl fun11 rfl (fun w _ _ => awake_any w) ?_
  refine step_pure rfl (pure_assign rfl) ?_
  refine Vc.step_end (fun a w ok => ?_)
  first | (refine WPs.run ?_ a w ok; clear ok w a) | skip
  repeat refine s_seqs ?_
  refine s_reg ?_
  refine step_pure rfl (pure_move rfl) ?_
  refine step_pure rfl (pure_len_slice rfl rfl rfl) ?_
  refine step_pure rfl (pure_gtr rfl rfl) ?_
  refine Vc.step_end (fun a w ok => ?_)
  first | (refine WPs.run ?_ a w ok; clear ok w a) | skip
  repeat refine s_seqs ?_
  refine s_cond rfl (fun h => ?_) (fun h => ?_)
  · repeat refine s_seqs ?_
    refine s_reg ?_
    refine step_pure rfl (pure_move rfl) ?_
    refine step_pure rfl (pure_assign rfl) ?_
    refine Vc.step_end (fun a w ok => ?_)
    first | (refine WPs.run ?_ a w ok; clear ok w a) | skip
    exact s_ret fun a w ok => ends_k on (.inr rfl) ok (res_tmp Try.results5 rfl)
  have hb3 : b.length ≤ 3000 := by have := of_decide_eq_false h; omega
  clear h
  refine s_skip fun a w ok => WPs.run ?_ a w ok
  clear ok w a
  repeat refine s_seqs ?_
  refine s_reg ?_
  refine step_pure rfl (pure_move rfl) ?_
  refine step_givesP on.sc rfl fun19 rfl (fun w' Z' hh kp hZ hC => read_P b _ w' hZ (hv.mono fun p x h => h.now kp) hb (by omega)) ?_
  rintro u E2 g ⟨v4, rfl, hr⟩
  replace on := on.next g
  replace hv := hv.mono g.mono
  clear g
  refine step_pure rfl (pure_move rfl) ?_
  refine step_pure rfl (pure_extract rfl rfl) ?_
  refine step_pure rfl (pure_extract rfl rfl) ?_
  refine step_pure rfl (pure_assign rfl) ?_
  refine step_pure rfl (pure_assign rfl) ?_
  refine Vc.step_end (fun a w ok => ?_)
  first | (refine WPs.run ?_ a w ok; clear ok w a) | skip
  repeat refine s_seqs ?_
  refine s_reg ?_
  refine step_pure rfl (pure_move rfl) ?_
  refine step_givesP on.sc rfl fun20 rfl (fun w' Z' hh kp hZ hC => rread_P b _ w' hZ (hv.mono fun p x h => h.now kp) hb (by omega)) ?_
  rintro u E3 g ⟨v6, rfl, hr2⟩
  replace on := on.next g
  replace hr := hr.mono g.cz
  clear g
  refine step_pure rfl (pure_move rfl) ?_
  refine step_pure rfl (pure_extract rfl rfl) ?_
  refine step_pure rfl (pure_extract rfl rfl) ?_
  refine step_pure rfl (pure_assign rfl) ?_
  refine step_pure rfl (pure_assign rfl) ?_
  refine Vc.step_end (fun a w ok => ?_)
  first | (refine WPs.run ?_ a w ok; clear ok w a) | skip
  obtain ⟨hkok, hkb⟩ := rdGet_in hb
  have hall : allB ((rdAll b).getD []) ((rdAll b).getD []) = true := (allB_iff hkb hkb).2 rfl
  have hbig := wrOk_big hkok
  have hin := wrOk_in hkok
  generalize (rdAll b).getD [] = ks at *
  generalize (if (rdAll b).isSome = true then (0 : Int) else 20) = gv at *
  repeat refine s_seqs ?_
  refine s_reg ?_
  refine step_pure rfl (pure_move rfl) ?_
  refine step_pure rfl (pure_move rfl) ?_
  refine step_gives rfl fun21 rfl (fun w' hh kp => all_any ks ks _ _ w' (hr.mono (Cz.now kp)) (hr2.mono (Cz.now kp)) (fun f hf => by have := (hbig f hf).2; omega) (by omega)) ?_
  refine step_pure rfl (pure_assign rfl) ?_
  refine Vc.step_end (fun a w ok => ?_)
  first | (refine WPs.run ?_ a w ok; clear ok w a) | skip
  rw [hall]
  repeat refine s_seqs ?_
  refine s_reg ?_
  refine step_pure rfl (pure_move rfl) ?_
  refine step_pure rfl (pure_move rfl) ?_
  refine step_pure rfl (pure_move rfl) ?_
  refine step_pure rfl (pure_pick_yes rfl rfl) ?_
  refine step_pure rfl (pure_move rfl) ?_
  refine step_pure rfl (pure_move rfl) ?_
  refine step_pure rfl (pure_move rfl) ?_
  refine step_as rfl (pure_eql rfl rfl) (show _ = Value.bool true from by rw [beq_self_eq_true]) ?_
  refine step_pure rfl (pure_pick_yes rfl rfl) ?_
  refine step_pure rfl (pure_assign rfl) ?_
  refine Vc.step_end (fun a w ok => ?_)
  first | (refine WPs.run ?_ a w ok; clear ok w a) | skip
  exact s_ret fun a w ok => ends_k on (.inr rfl) ok (res_tmp Try.results5 rfl)
end Go.Proofs.Ytphpmallnlajjaa
