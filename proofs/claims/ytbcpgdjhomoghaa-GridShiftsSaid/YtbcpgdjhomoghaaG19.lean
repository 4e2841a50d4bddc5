/- The law GridWrites, walked. -/
import Derived.Test.YtbcpgdjhomoghaaG18
namespace Go.Proofs.Ytbcpgdjhomoghaa
open Go.RowKit Go.Vc
set_option linter.unusedVariables false
theorem wrS_ok (a b : Nat) (l : List Int) (ha : 1 ≤ a ∧ a ≤ 64) (hb : 1 ≤ b ∧ b ≤ 64) (hl : Bytes l) : ∀ n, ScOk (wrS a b l n)
 | 0 => by
  rw [← wrS_zero a b l ha hb]
  exact newS_ok (decide_eq_true (by omega)) (decide_eq_true (by omega))
 | n + 1 => by
  rw [← wrS_next a b l n ha.1 hb.1 (hl.at n)]
  exact putF_ok (wrS_ok a b l ha hb hl n) _
theorem load16 {cs : List Value} (h : cs.length = 16) : (cs.drop 0).take 16 = cs := by rw [List.drop_zero]; exact List.take_of_length_le (by omega)
set_option maxHeartbeats 4000000 in
theorem gridwrites_any (W H : Int) (l : List Int) (v : Value) (w : World) (hW : 0 ≤ W ∧ W < 256) (hH : 0 ≤ H ∧ H < 256) (hv : SlC (At w) 1 v l.length (row l)) (hb : Bytes l) :
  Gives tb 3 [.int .u8 W, .int .u8 H, v] w (.bool true) := by
 have hmx : 5000 ≤ maxLen := by decide
 replace hv : SlC (Cz (fun _ => True) ⟨w, [], []⟩) 1 v l.length (row l) := hv.mono fun p x h => ⟨⟨h, by simp⟩, trivial⟩
 obtain ⟨base1, cap1, rfl, hcap1⟩ : ∃ base cap, v = .slice base l.length cap ∧ l.length ≤ cap := by obtain ⟨base, cap, rfl, h1, _⟩ := hv; exact ⟨base, cap, rfl, h1⟩
 have hWw : IntKind.i64.wrap W = W := wrap_i64 (by omega) (by omega)
 have hHw : IntKind.i64.wrap H = H := wrap_i64 (by omega) (by omega)
 obtain ⟨a, ha⟩ : ∃ a : Nat, 1 + W % 12 = a := ⟨(1 + W % 12).toNat, by omega⟩
 obtain ⟨b, hbb⟩ : ∃ b : Nat, 1 + H % 6 = b := ⟨(1 + H % 6).toNat, by omega⟩
 have ha1 : 1 ≤ a ∧ a ≤ 12 := by omega
 have hb1 : 1 ≤ b ∧ b ≤ 6 := by omega
 refine gives_ofk (fn := Try.f3) Try.func3 rfl Try.ntmps3 rfl (fun on => ?_)
 repeat refine s_seqs ?_
 refine s_reg ?_
 refine qa rfl rfl ?_
 refine Vc.step_end (fun a w ok => ?_)
 first | (refine WPs.run ?_ a w ok; clear ok w a) | skip
 repeat refine s_seqs ?_
 refine s_reg ?_
 refine step_gives rfl fun7 rfl (fun w _ _ => gawake_any w) ?_
 refine qa rfl rfl ?_
 refine Vc.step_end (fun a w ok => ?_)
 first | (refine WPs.run ?_ a w ok; clear ok w a) | skip
 repeat refine s_seqs ?_
 refine s_reg ?_
 refine qm rfl rfl ?_
 refine step_pure rfl (pure_len_slice rfl rfl rfl) ?_
 refine step_pure rfl (pure_gtr rfl rfl) ?_
 refine Vc.step_end (fun a w ok => ?_)
 first | (refine WPs.run ?_ a w ok; clear ok w a) | skip
 repeat refine s_seqs ?_
 refine s_cond rfl (fun h => ?_) (fun h => ?_)
 ·repeat refine s_seqs ?_
  refine s_reg ?_
  refine qm rfl rfl ?_
  refine qa rfl rfl ?_
  refine Vc.step_end (fun a w ok => ?_)
  first | (refine WPs.run ?_ a w ok; clear ok w a) | skip
  exact s_ret fun a w ok => ends_k on (.inr rfl) ok (res_tmp Try.results3 rfl)
 have hle : l.length ≤ 300 := by have := of_decide_eq_false h; omega
 clear h
 refine s_skip fun a w ok => WPs.run ?_ a w ok
 clear ok w a
 repeat refine s_seqs ?_
 refine s_reg ?_
 refine qm rfl rfl ?_
 refine step_as rfl (pure_conv rfl rfl rfl rfl) (congrArg (Value.int .i64) hWw) ?_
 first | refine step_pure rfl (pure_rem_pos rfl rfl (by omega) (by decide)) ?_ | refine step_pure rfl (pure_rem rfl rfl (by decide)) ?_
 refine step_as rfl (pure_add rfl rfl) (show _ = Value.int .i64 (a : Int) from congrArg (Value.int .i64) (by rw [ha]; exact wrap_i64 (by omega) (by omega))) ?_
 refine qa rfl rfl ?_
 refine Vc.step_end (fun a w ok => ?_)
 first | (refine WPs.run ?_ a w ok; clear ok w a) | skip
 repeat refine s_seqs ?_
 refine s_reg ?_
 refine qm rfl rfl ?_
 refine step_as rfl (pure_conv rfl rfl rfl rfl) (congrArg (Value.int .i64) hHw) ?_
 first | refine step_pure rfl (pure_rem_pos rfl rfl (by omega) (by decide)) ?_ | refine step_pure rfl (pure_rem rfl rfl (by decide)) ?_
 refine step_as rfl (pure_add rfl rfl) (show _ = Value.int .i64 (b : Int) from congrArg (Value.int .i64) (by rw [hbb]; exact wrap_i64 (by omega) (by omega))) ?_
 refine qa rfl rfl ?_
 refine Vc.step_end (fun a w ok => ?_)
 first | (refine WPs.run ?_ a w ok; clear ok w a) | skip
 have hsd : (side (a : Int) && side (b : Int)) = true := by rw [show side (a : Int) = true from decide_eq_true (by omega), show side (b : Int) = true from decide_eq_true (by omega)]; rfl
 have hz := wrS_zero a b l (by omega) (by omega)
 have hok := wrS_ok a b l (by omega) (by omega) hb
 repeat refine s_seqs ?_
 refine s_reg ?_
 refine qm rfl rfl ?_
 refine qm rfl rfl ?_
 refine step_givesP on.sc rfl fun8 rfl (fun w' Z' hh kp hZ hC => new_P a b w' hZ) ?_
 rintro u E1 g ⟨cs1, hu, hs1⟩
 rw [hsd, if_pos rfl] at hu
 subst hu
 rw [hz] at hs1
 replace on := on.next g
 replace hv := hv.mono g.cz
 clear g
 obtain ⟨hl1, ho1⟩ := scv_form hs1
 refine qm rfl rfl ?_
 refine qx rfl rfl rfl ?_
 refine qx rfl rfl rfl ?_
 refine step_alloc rfl zero27 (fun b10 => ?_)
 refine step_store_agg 0 rfl rfl rfl ho1 rfl hl1 rfl rfl (Nat.le_of_ble_eq_true rfl) (splice_all hl1) ?_
 refine qa rfl rfl ?_
 refine Vc.step_end (fun a w ok => ?_)
 first | (refine WPs.run ?_ a w ok; clear ok w a) | skip
 repeat refine s_seqs ?_
 refine s_reg ?_
 refine qa rfl rfl ?_
 refine Vc.step_end (fun a w ok => ?_)
 first | (refine WPs.run ?_ a w ok; clear ok w a) | skip
 clear hz hsd
 repeat refine s_seqs ?_
 refine s_block ?_
 repeat refine s_seqs ?_
 refine s_loopP (α := Nat × List Value) (fun y => [(2, .slice base1 l.length cap1), (7, .bool true), (8, .int .i64 a), (9, .int .i64 b), (10, .pointer (some ⟨b10, 0, none⟩)), (11, .int .i64 0), (12, .int .i64 y.1)]) (fun y => [⟨b10, y.2, tSc⟩])
  (fun y E => y.1 ≤ l.length ∧ ScV (Cz (fun _ => True) E) (wrS a b l y.1) y.2) (fun y => l.length - y.1) (0, _) ⟨Nat.zero_le _, hs1⟩ (less_of ⟨rfl, rfl, rfl, rfl, rfl, rfl, rfl, trivial⟩ rfl) ?_
 clear hs1 hl1 ho1 cs1
 rintro ⟨i, cs⟩ E2 ⟨hi, hs⟩ g
 replace on := on.next g
 replace hv := hv.mono g.cz
 clear g
 dsimp only at hi hs ⊢
 obtain ⟨hl1, ho1⟩ := scv_form hs
 repeat refine s_seqs ?_
 refine s_reg ?_
 refine qm rfl rfl ?_
 refine qm rfl rfl ?_
 refine step_pure rfl (pure_len_slice rfl rfl rfl) ?_
 refine step_pure rfl (pure_lss rfl rfl) ?_
 refine Vc.step_end (fun a w ok => ?_)
 first | (refine WPs.run ?_ a w ok; clear ok w a) | skip
 repeat refine s_seqs ?_
 refine s_cond rfl (fun h => ?_) (fun h => ?_)
 ·have hlt : i < l.length := by have := of_decide_eq_true h; omega
  clear h
  refine s_skip fun a w ok => WPs.run ?_ a w ok
  clear ok w a
  obtain ⟨p, cap', he, hc⟩ := slc_at1 hv hlt
  cases he
  have hke : l[i] = l.getD i 0 := by rw [List.getD_eq_getElem?_getD, List.getElem?_eq_getElem hlt]; rfl
  rw [hke] at hc
  have hbi := hb.at i
  have hnx := wrS_next a b l i ha1.1 hb1.1 hbi
  have hput : doF (putF (33 + l.getD i 0)) (wrS a b l i) = wrS a b l (i + 1) := by
   unfold doF
   rw [(scOk_iff _).2 (hok i), if_pos rfl, hnx]
  have hcl := wrCells_len a b l i
  have hab : a * b ≤ 12 * 6 := Nat.mul_le_mul ha1.2 hb1.2
  generalize l.getD i 0 = x at *
  repeat refine s_seqs ?_
  refine s_block ?_
  repeat refine s_seqs ?_
  refine s_dreg [3, 9, 17, 25, 35, 41, 49, 60, 68] ([⟨b10, cs, tSc⟩]) follows (by kernel_rfl) ?_
  refine d_pure1 rfl rfl rfl (pure_load_agg (i := 0) (vs := cs) rfl rfl rfl rfl rfl (by show 0 + 16 ≤ cs.length; omega) (load16 hl1)) (by first | exact SubMem.refl _ | exact (SubMem.refl _).cons | exact (SubMem.refl _).cons.cons | exact (SubMem.refl _).cons.cons.cons | exact (SubMem.refl _).cons.cons.cons.cons | exact (fun w hh => Has.sublist (by repeat (first | exact List.Sublist.refl _ | exact List.nil_sublist _ | apply List.Sublist.cons_cons | apply List.Sublist.cons)) hh)) ?_
  refine qd rfl rfl rfl rfl ?_
  refine qd rfl rfl rfl rfl ?_
  refine d_as0 rfl rfl rfl (pure_indexAddr_at rfl rfl rfl rfl rfl (by omega) (by omega)) (show _ = Value.pointer (some (p.add (i * 1))) from by show Value.pointer (some (p.add ((i : Int).toNat * 1))) = _; rw [Int.toNat_natCast]) ?_
  refine d_pure1 rfl rfl rfl (pure_cel rfl rfl rfl hc.1) (by first | exact SubMem.refl _ | exact (SubMem.refl _).cons | exact (SubMem.refl _).cons.cons | exact (SubMem.refl _).cons.cons.cons | exact (SubMem.refl _).cons.cons.cons.cons | exact (fun w hh => Has.sublist (by repeat (first | exact List.Sublist.refl _ | exact List.nil_sublist _ | apply List.Sublist.cons_cons | apply List.Sublist.cons)) hh)) ?_
  refine d_as0 rfl rfl rfl (pure_conv rfl rfl rfl rfl) (show _ = Value.int .i64 x from congrArg (Value.int .i64) (wrap_i64 (by omega) (by omega))) ?_
  first | refine d_pure0 rfl rfl rfl (pure_add64 rfl rfl (by omega) (by omega)) ?_ | refine d_pure0 rfl rfl rfl (pure_add rfl rfl) ?_
  refine d_givesP on.sc rfl rfl rfl fun9 rfl (fun w' Z' hh kp hZ hC => put_P (wrS a b l i) cs (33 + x) w' hZ (hs.mono (Cz.now kp)) (by show (wrCells a b l i).length ≤ maxLen; omega) (by show 0 ≤ maxLen; omega)) rfl ?_
  rintro u E3 g ⟨cs2, rfl, hs2⟩
  rw [hput] at hs2
  replace on := on.next g
  have g5 := g
  clear g
  obtain ⟨hl2, ho2⟩ := scv_form hs2
  refine d_store_agg 0 rfl rfl rfl rfl rfl ho2 rfl hl2 rfl rfl (by show 0 + 16 ≤ cs.length; omega) (splice_all (by rw [hl2]; exact hl1.symm)) rfl rfl ?_
  refine d_end (fun a w ok => ?_)
  first | (refine WPs.run ?_ a w ok; clear ok w a) | skip
  repeat refine s_seqs ?_
  refine s_reg ?_
  refine qm rfl rfl ?_
  first | refine step_pure rfl (pure_add64 rfl rfl (by omega) (by omega)) ?_ | refine step_pure rfl (pure_add rfl rfl) ?_
  refine qa rfl rfl ?_
  refine Vc.step_end (fun a w ok => ?_)
  refine ⟨(i + 1, cs2), _, ⟨hlt, hs2⟩, by show l.length - (i + 1) < l.length - i; omega, g5, Less.ok ?_ ok⟩
  exact less_of ⟨rfl, rfl, rfl, rfl, rfl, rfl, rfl, trivial⟩ rfl
 ·have hie : i = l.length := by have := of_decide_eq_false h; omega
  subst hie
  clear h hi
  refine s_exit fun a w ok => WPs.run ?_ a w ok
  clear ok w a
  obtain ⟨u1, u2, rfl, hcc, hmm⟩ := hs
  have hab : a * b ≤ 12 * 6 := Nat.mul_le_mul ha1.2 hb1.2
  have hC1 : (wrS a b l l.length).cells.length = a * b := wrCells_len a b l l.length
  have hC2 : ∀ i, i < a * b → (wrS a b l l.length).cells.getD i blC = if wrGone a b l.length + i < l.length then (33 + l.getD (wrGone a b l.length + i) 0, 0) else blC := fun i hi => wrCells_get a b l l.length i hi
  have hY : (wrS a b l l.length).Y = ((min (max ((l.length + a - 1) / a) 1) b : Nat) : Int) - 1 := rfl
  have hdv : ((l.length : Int) + a - 1) / (a : Int) = (((l.length + a - 1) / a : Nat) : Int) := by
   rw [show (l.length : Int) + a - 1 = ((l.length + a - 1 : Nat) : Int) by omega]
   exact (Int.natCast_ediv ..).symm
  have hdl : (l.length + a - 1) / a ≤ l.length + a - 1 := Nat.div_le_self ..
  obtain ⟨R, hR⟩ : ∃ R, R = max ((l.length + a - 1) / a) 1 := ⟨_, rfl⟩
  have hRi : max (((l.length : Int) + a - 1) / (a : Int)) 1 = (R : Int) := by rw [hdv, hR]; omega
  have hRl : R ≤ 400 := by rw [hR]; omega
  have hGm : (R - b) * a ≤ 400 * 12 := Nat.mul_le_mul (by omega) ha1.2
  have hGG : wrGone a b l.length = (R - b) * a := by unfold wrGone; rw [hR]
  rw [← hR] at hY
  rw [hGG] at hC2
  have hGe : ((R - b : Nat) : Int) * (a : Int) = (((R - b) * a : Nat) : Int) := mulN ..
  generalize (R - b) * a = G at *
  obtain ⟨a3, c3, rfl, hc3⟩ := slc_sl hcc
  obtain ⟨a4, c4, rfl, _⟩ := slc_sl hmm
  clear hmm hok hdv hdl
  have hwab : IntKind.i64.wrap ((a : Int) * (b : Int)) = ((a * b : Nat) : Int) := by rw [mulN]; exact wrap_i64 (by omega) (by omega)
  generalize wrS a b l l.length = S at *
  repeat refine s_seqs ?_
  refine s_reg ?_
  refine qm rfl rfl ?_
  refine step_pure rfl (pure_neq rfl rfl) ?_
  refine qm rfl rfl ?_
  first | refine step_pure rfl (pure_fieldAddr rfl rfl rfl rfl rfl (by decide)) ?_ | refine qp rfl rfl rfl ?_
  first | refine step_pure rfl (pure_load (i := 0) rfl rfl rfl rfl rfl rfl) ?_ | refine step_pure rfl (pure_load (i := 1) rfl rfl rfl rfl rfl rfl) ?_ | refine step_pure rfl (pure_load (i := 2) rfl rfl rfl rfl rfl rfl) ?_ | refine step_pure rfl (pure_load (i := 3) rfl rfl rfl rfl rfl rfl) ?_ | refine step_pure rfl (pure_load (i := 4) rfl rfl rfl rfl rfl rfl) ?_ | refine step_pure rfl (pure_load (i := 5) rfl rfl rfl rfl rfl rfl) ?_ | refine qp rfl rfl rfl ?_
  first | refine step_pure rfl (pure_len_slice rfl rfl rfl) ?_ | refine qp rfl rfl rfl ?_
  first | refine qm rfl rfl ?_ | refine qp rfl rfl rfl ?_
  first | refine qm rfl rfl ?_ | refine qp rfl rfl rfl ?_
  first | refine step_as rfl (pure_mul rfl rfl) (congrArg (Value.int .i64) hwab) ?_ | refine qp rfl rfl rfl ?_
  first | refine step_as rfl (pure_neq rfl rfl) (show _ = Value.bool false from congrArg Value.bool (by rw [hC1]; simp)) ?_ | refine qp rfl rfl rfl ?_
  first | refine step_pure rfl (pure_pick_yes rfl rfl) ?_ | refine step_pure rfl (pure_pick_no rfl rfl) ?_ | refine step_pure rfl (pure_pick_bool rfl rfl rfl) ?_
  refine Vc.step_end (fun a w ok => ?_)
  first | (refine WPs.run ?_ a w ok; clear ok w a) | skip
  repeat refine s_seqs ?_
  refine s_cond_no rfl rfl ?_
  refine s_skip fun a w ok => WPs.run ?_ a w ok
  clear ok w a
  repeat refine s_seqs ?_
  refine s_reg ?_
  refine qm rfl rfl ?_
  refine step_pure rfl (pure_len_slice rfl rfl rfl) ?_
  refine qm rfl rfl ?_
  first | refine step_pure rfl (pure_add64 rfl rfl (by omega) (by omega)) ?_ | refine step_pure rfl (pure_add rfl rfl) ?_
  first | refine step_pure rfl (pure_sub64 rfl rfl (by omega) (by omega)) ?_ | refine step_pure rfl (pure_sub rfl rfl) ?_
  refine qm rfl rfl ?_
  refine step_pure rfl (pure_quo_pos rfl rfl (by omega) (by omega) (by omega)) ?_
  refine step_as rfl (pure_max rfl rfl) (congrArg (Value.int .i64) hRi) ?_
  refine qa rfl rfl ?_
  refine Vc.step_end (fun a w ok => ?_)
  first | (refine WPs.run ?_ a w ok; clear ok w a) | skip
  repeat refine s_seqs ?_
  refine s_reg ?_
  refine qm rfl rfl ?_
  refine qm rfl rfl ?_
  first | refine step_pure rfl (pure_sub64 rfl rfl (by omega) (by omega)) ?_ | refine step_pure rfl (pure_sub rfl rfl) ?_
  refine step_as rfl (pure_max rfl rfl) (show _ = Value.int .i64 ((R - b : Nat) : Int) from congrArg (Value.int .i64) (by omega)) ?_
  refine qm rfl rfl ?_
  refine step_as rfl (pure_mul rfl rfl) (show _ = Value.int .i64 (G : Int) from congrArg (Value.int .i64) (by rw [hGe]; exact wrap_i64 (by omega) (by omega))) ?_
  refine qa rfl rfl ?_
  refine Vc.step_end (fun a w ok => ?_)
  first | (refine WPs.run ?_ a w ok; clear ok w a) | skip
  repeat refine s_seqs ?_
  refine s_reg ?_
  refine qa rfl rfl ?_
  refine Vc.step_end (fun a w ok => ?_)
  first | (refine WPs.run ?_ a w ok; clear ok w a) | skip
  repeat refine s_seqs ?_
  refine s_block ?_
  repeat refine s_seqs ?_
  refine s_loopP (α := Nat) (fun i => [(2, .slice base1 l.length cap1), (7, .bool true), (8, .int .i64 a), (9, .int .i64 b), (10, .pointer (some ⟨b10, 0, none⟩)), (13, .int .i64 R), (14, .int .i64 G), (15, .int .i64 i)])
   (fun _ => [⟨b10, scC S (.slice a3 S.cells.length c3) (.slice a4 S.main.length c4), tSc⟩]) (fun i _ => i ≤ a * b) (fun i => a * b - i) 0 (Nat.zero_le _) (less_of ⟨rfl, rfl, rfl, rfl, rfl, rfl, rfl, rfl, trivial⟩ rfl) ?_
  intro i E3 hi g
  replace on := on.next g
  replace hv := hv.mono g.cz
  replace hcc := hcc.mono g.cz
  clear g
  repeat refine s_seqs ?_
  refine s_reg ?_
  refine qm rfl rfl ?_
  refine qm rfl rfl ?_
  refine qm rfl rfl ?_
  refine step_as rfl (pure_mul rfl rfl) (congrArg (Value.int .i64) hwab) ?_
  refine step_pure rfl (pure_lss rfl rfl) ?_
  refine Vc.step_end (fun a w ok => ?_)
  first | (refine WPs.run ?_ a w ok; clear ok w a) | skip
  repeat refine s_seqs ?_
  refine s_cond rfl (fun h => ?_) (fun h => ?_)
  ·have hlt : i < a * b := by have := of_decide_eq_true h; omega
   clear h
   refine s_skip fun a w ok => WPs.run ?_ a w ok
   clear ok w a
   repeat refine s_seqs ?_
   refine s_block ?_
   have hCe := hC2 i hlt
   repeat refine s_seqs ?_
   refine s_reg ?_
   refine qa rfl rfl ?_
   refine Vc.step_end (fun a w ok => ?_)
   first | (refine WPs.run ?_ a w ok; clear ok w a) | skip
   repeat refine s_seqs ?_
   refine s_reg ?_
   refine qm rfl rfl ?_
   refine qm rfl rfl ?_
   first | refine step_pure rfl (pure_add64 rfl rfl (by omega) (by omega)) ?_ | refine step_pure rfl (pure_add rfl rfl) ?_
   refine qm rfl rfl ?_
   refine step_pure rfl (pure_len_slice rfl rfl rfl) ?_
   refine step_pure rfl (pure_lss rfl rfl) ?_
   refine Vc.step_end (fun a w ok => ?_)
   first | (refine WPs.run ?_ a w ok; clear ok w a) | skip
   obtain ⟨q1, k1, e1, hq1⟩ := slc_ce hcc (show i < S.cells.length by omega)
   cases e1
   repeat refine s_seqs ?_
   refine s_meet [(2, .slice base1 l.length cap1), (7, .bool true), (8, .int .i64 a), (9, .int .i64 b), (10, .pointer (some ⟨b10, 0, none⟩)), (13, .int .i64 R), (14, .int .i64 G), (15, .int .i64 i), (16, .int .i64 (S.cells.getD i blC).1)]
    [⟨b10, scC S (.slice (some q1) S.cells.length c3) (.slice a4 S.main.length c4), tSc⟩] ?_ (fun a w ok => WPs.run ?_ a w ok)
   ·repeat refine c_seq ?_
    refine c_cond rfl (fun h => ?_) (fun h => ?_)
    ·have hj : G + i < l.length := by have := of_decide_eq_true h; omega
     rw [hCe, if_pos hj]
     obtain ⟨p, cap', he, hc⟩ := slc_at1 hv hj
     cases he
     have hke : l[G + i] = l.getD (G + i) 0 := by rw [List.getD_eq_getElem?_getD, List.getElem?_eq_getElem hj]; rfl
     rw [hke] at hc
     have hbi := hb.at (G + i)
     generalize l.getD (G + i) 0 = x at *
     repeat refine c_seq ?_
     refine c_region ?_
     refine qm rfl rfl ?_
     refine qm rfl rfl ?_
     refine qm rfl rfl ?_
     first | refine step_pure rfl (pure_add64 rfl rfl (by omega) (by omega)) ?_ | refine step_pure rfl (pure_add rfl rfl) ?_
     refine step_as rfl (pure_indexAddr_at rfl rfl rfl rfl rfl (by omega) (by omega)) (show _ = Value.pointer (some (p.add ((G + i) * 1))) from by show Value.pointer (some (p.add (((G : Int) + (i : Int)).toNat * 1))) = _; rw [show ((G : Int) + (i : Int)).toNat = G + i by omega]) ?_
     refine step_pure rfl (pure_cel rfl rfl rfl hc.1) ?_
     refine step_as rfl (pure_conv rfl rfl rfl rfl) (show _ = Value.int .i64 x from congrArg (Value.int .i64) (wrap_i64 (by omega) (by omega))) ?_
     first | refine step_pure rfl (pure_add64 rfl rfl (by omega) (by omega)) ?_ | refine step_pure rfl (pure_add rfl rfl) ?_
     refine qa rfl rfl ?_
     refine step_nil ?_
     exact less_of ⟨rfl, rfl, rfl, rfl, rfl, rfl, rfl, rfl, rfl, trivial⟩ rfl
    ·have hj : ¬ G + i < l.length := by have := of_decide_eq_false h; omega
     rw [hCe, if_neg hj]
     refine c_skip ?_
     exact less_of ⟨rfl, rfl, rfl, rfl, rfl, rfl, rfl, rfl, rfl, trivial⟩ rfl
   have hc0 : (S.cells.getD i blC).2 = 0 := by
    rw [hCe]
    split <;> rfl
   rw [hc0] at hq1
   generalize (S.cells.getD i blC).1 = x at *
   repeat refine s_seqs ?_
   refine s_reg ?_
   refine step_pure rfl (pure_fieldAddr rfl rfl rfl rfl rfl (by decide)) ?_
   first | refine step_pure rfl (pure_load (i := 0) rfl rfl rfl rfl rfl rfl) ?_ | refine step_pure rfl (pure_load (i := 1) rfl rfl rfl rfl rfl rfl) ?_ | refine step_pure rfl (pure_load (i := 2) rfl rfl rfl rfl rfl rfl) ?_ | refine step_pure rfl (pure_load (i := 3) rfl rfl rfl rfl rfl rfl) ?_ | refine step_pure rfl (pure_load (i := 4) rfl rfl rfl rfl rfl rfl) ?_ | refine step_pure rfl (pure_load (i := 5) rfl rfl rfl rfl rfl rfl) ?_
   refine qm rfl rfl ?_
   refine step_as rfl (pure_indexAddr_at rfl rfl rfl rfl rfl (by omega) (by omega)) (show _ = Value.pointer (some (q1.add (i * 2))) from by show Value.pointer (some (q1.add ((i : Int).toNat * 2))) = _; rw [Int.toNat_natCast]) ?_
   refine step_pure rfl (pure_cel_agg (vs := [Value.int .i64 x, .int .i64 0]) rfl rfl rfl rfl (fun j v h => (hq1 j v h).1)) ?_
   refine qm rfl rfl ?_
   refine step_pure rfl (pure_build_struct (pl := [(0, 1), (1, 1)]) rfl zero33 rfl rfl rfl rfl) ?_
   refine step_as rfl (pure_neq_ce rfl rfl) (show _ = Value.bool false from congrArg Value.bool (by simp)) ?_
   refine Vc.step_end (fun a w ok => ?_)
   first | (refine WPs.run ?_ a w ok; clear ok w a) | skip
   repeat refine s_seqs ?_
   refine s_cond_no rfl rfl ?_
   refine s_skip fun a w ok => WPs.run ?_ a w ok
   clear ok w a
   repeat refine s_seqs ?_
   refine s_reg ?_
   refine qm rfl rfl ?_
   first | refine step_pure rfl (pure_add64 rfl rfl (by omega) (by omega)) ?_ | refine step_pure rfl (pure_add rfl rfl) ?_
   refine qa rfl rfl ?_
   refine Vc.step_end (fun a w ok => ?_)
   refine ⟨i + 1, _, by omega, by omega, Gt.refl _, Less.ok ?_ ok⟩
   exact less_of ⟨rfl, rfl, rfl, rfl, rfl, rfl, rfl, rfl, trivial⟩ rfl
  ·refine s_exit fun a w ok => WPs.run ?_ a w ok
   clear ok w a
   repeat refine s_seqs ?_
   refine s_reg ?_
   refine qm rfl rfl ?_
   refine qm rfl rfl ?_
   first | refine step_pure rfl (pure_fieldAddr rfl rfl rfl rfl rfl (by decide)) ?_ | refine qp rfl rfl rfl ?_
   first | refine step_pure rfl (pure_load (i := 0) rfl rfl rfl rfl rfl rfl) ?_ | refine step_pure rfl (pure_load (i := 1) rfl rfl rfl rfl rfl rfl) ?_ | refine step_pure rfl (pure_load (i := 2) rfl rfl rfl rfl rfl rfl) ?_ | refine step_pure rfl (pure_load (i := 3) rfl rfl rfl rfl rfl rfl) ?_ | refine step_pure rfl (pure_load (i := 4) rfl rfl rfl rfl rfl rfl) ?_ | refine step_pure rfl (pure_load (i := 5) rfl rfl rfl rfl rfl rfl) ?_ | refine qp rfl rfl rfl ?_
   first | refine qm rfl rfl ?_ | refine qp rfl rfl rfl ?_
   first | refine qm rfl rfl ?_ | refine qp rfl rfl rfl ?_
   first | refine step_as rfl (pure_min rfl rfl) (show _ = Value.int .i64 ((min R b : Nat) : Int) from congrArg (Value.int .i64) (by omega)) ?_ | refine qp rfl rfl rfl ?_
   first | refine step_pure rfl (pure_sub64 rfl rfl (by omega) (by omega)) ?_ | refine step_pure rfl (pure_sub rfl rfl) ?_ | refine qp rfl rfl rfl ?_
   first | refine step_as rfl (pure_eql rfl rfl) (show _ = Value.bool true from congrArg Value.bool (decide_eq_true hY)) ?_ | refine qp rfl rfl rfl ?_
   first | refine step_pure rfl (pure_pick_yes rfl rfl) ?_ | refine step_pure rfl (pure_pick_no rfl rfl) ?_ | refine step_pure rfl (pure_pick_bool rfl rfl rfl) ?_
   refine qa rfl rfl ?_
   refine Vc.step_end (fun a w ok => ?_)
   first | (refine WPs.run ?_ a w ok; clear ok w a) | skip
   exact s_ret fun a w ok => ends_k on (.inr rfl) ok (res_tmp Try.results3 rfl)
end Go.Proofs.Ytbcpgdjhomoghaa
