/- The document's: sides, cells, Check, Copy: walked. -/
import Derived.Test.YtbcpgdjhomoghaaG18
namespace Go.Proofs.Ytbcpgdjhomoghaa
open Go.RowKit Go.Vc
set_option linter.unusedVariables false
theorem side_any (n : Int) (w : World) : Gives tb 39 [.int .i64 n] w (.bool (side n)) := by
 refine gives_of (fn := Try.f39) Try.func39 rfl Try.ntmps39 rfl ?_
 unfold side
 repeat refine c_seq ?_
 refine c_region ?_
 refine qa rfl rfl ?_
 refine step_nil ?_
 repeat refine c_seq ?_
 refine c_region ?_
 refine qm rfl rfl ?_
 refine step_pure rfl (pure_geq rfl rfl) ?_
 refine qm rfl rfl ?_
 refine step_split (t := 5) rfl (fun h5 => ?_) (fun h5 => ?_)
 ·refine qm rfl rfl ?_
  refine step_pure rfl (pure_leq rfl rfl) ?_
  refine step_pure rfl (pure_pick_yes rfl rfl) ?_
  refine qa rfl rfl ?_
  refine step_nil ?_
  refine c_ret ⟨_, res_tmp Try.results39 rfl, congrArg Value.bool ?_⟩
  simp_all
  try omega
 ·refine qp rfl rfl rfl ?_
  refine qp rfl rfl rfl ?_
  refine step_pure rfl (pure_pick_no rfl rfl) ?_
  refine qa rfl rfl ?_
  refine step_nil ?_
  refine c_ret ⟨_, res_tmp Try.results39 rfl, congrArg Value.bool ?_⟩
  simp_all
  try omega
set_option maxHeartbeats 1000000 in
theorem rcells_any (l : List Ce) (v : Value) (n : Int) (w : World) (hv : SlC (At w) 2 v l.length (ceR l)) (hle : l.length ≤ maxLen) : Gives tb 57 [v, .int .i64 n] w (.bool (okCells l n)) := by
 have hm : maxLen ≤ 9223372036854775807 := by decide
 obtain ⟨a1, c1, rfl, _⟩ := slc_sl hv
 replace hv : SlC (Cel ⟨w, [], []⟩) 2 (.slice a1 l.length c1) l.length (ceR l) := hv.mono fun p x h => ⟨h, by simp⟩
 refine gives_of (fn := Try.f57) Try.func57 rfl Try.ntmps57 rfl ?_
 repeat refine c_seq ?_
 refine c_region ?_
 refine qa rfl rfl ?_
 refine step_nil ?_
 repeat refine c_seq ?_
 refine c_region ?_
 refine qm rfl rfl ?_
 refine step_pure rfl (pure_len_slice rfl rfl rfl) ?_
 refine qm rfl rfl ?_
 refine step_pure rfl (pure_neq rfl rfl) ?_
 refine step_nil ?_
 by_cases hn : (l.length : Int) = n
 ·subst hn
  repeat refine c_seq ?_
  refine c_cond_no rfl (by simp) ?_
  refine c_skip ?_
  repeat refine c_seq ?_
  refine c_region ?_
  refine qa rfl rfl ?_
  refine step_nil ?_
  repeat refine c_seq ?_
  refine c_block ?_
  repeat refine c_seq ?_
  refine c_loop (α := Nat) (fun i => [(0, .slice a1 l.length c1), (1, .int .i64 l.length), (5, .int .i64 i)]) (fun _ => []) (fun i => i ≤ l.length ∧ (l.take i).all okCell = true) (fun i => l.length - i) 0 ⟨Nat.zero_le _, rfl⟩ (less_of ⟨rfl, rfl, rfl, trivial⟩ rfl) ?_
  rintro i ⟨hi, ha⟩
  repeat refine c_seq ?_
  refine c_region ?_
  refine qm rfl rfl ?_
  refine qm rfl rfl ?_
  refine step_pure rfl (pure_lss rfl rfl) ?_
  refine step_nil ?_
  repeat refine c_seq ?_
  refine c_cond rfl (fun h => ?_) (fun h => ?_)
  ·have hlt : i < l.length := by have := of_decide_eq_true h; omega
   clear h
   refine c_skip ?_
   obtain ⟨p, k, e1, q⟩ := slc_ce hv hlt
   cases e1
   have q0 := q 0 _ rfl
   have q1 := q 1 _ rfl
   clear q
   have hgd : l.getD i blC = l[i] := by rw [List.getD_eq_getElem?_getD, List.getElem?_eq_getElem hlt]; rfl
   have hmem : l.getD i blC ∈ l := by rw [hgd]; exact List.getElem_mem hlt
   have hnx : (l.take (i + 1)).all okCell = ((l.take i).all okCell && okCell (l.getD i blC)) := by
    rw [List.take_add_one, List.getElem?_eq_getElem hlt, List.all_append, hgd]
    simp
   generalize l.getD i blC = c at *
   repeat refine c_seq ?_
   refine c_block ?_
   repeat refine c_seq ?_
   refine c_meet [(0, .slice (some p) l.length c1), (1, .int .i64 l.length), (5, .int .i64 i), (44, .bool (!okCell c))] [] ?_ ?_
   ·clear hnx ha hmem hgd
    unfold okCell
    repeat refine c_seq ?_
    refine c_region ?_
    refine qm rfl rfl ?_
    refine qm rfl rfl ?_
    refine step_as rfl (pure_indexAddr_at rfl rfl rfl rfl rfl (by omega) (by omega)) (show _ = Value.pointer (some (p.add (i * 2))) from by show Value.pointer (some (p.add ((i : Int).toNat * 2))) = _; rw [Int.toNat_natCast]) ?_
    refine step_pure rfl (pure_fieldAddr_at rfl rfl rfl rfl rfl (by decide)) ?_
    refine step_pure rfl (pure_cel rfl rfl rfl q0) ?_
    refine step_pure rfl (pure_lss rfl rfl) ?_
    refine qm rfl rfl ?_
    refine step_split (t := 21) rfl (fun h21 => ?_) (fun h21 => ?_)
    ·refine qp rfl rfl rfl ?_
     refine qp rfl rfl rfl ?_
     refine qp rfl rfl rfl ?_
     refine qp rfl rfl rfl ?_
     refine qp rfl rfl rfl ?_
     refine qp rfl rfl rfl ?_
     refine step_pure rfl (pure_pick_yes rfl rfl) ?_
     refine qm rfl rfl ?_
     refine qp rfl rfl rfl ?_
     refine qp rfl rfl rfl ?_
     refine qp rfl rfl rfl ?_
     refine qp rfl rfl rfl ?_
     refine qp rfl rfl rfl ?_
     refine qp rfl rfl rfl ?_
     refine step_pure rfl (pure_pick_yes rfl rfl) ?_
     refine qm rfl rfl ?_
     refine qp rfl rfl rfl ?_
     refine qp rfl rfl rfl ?_
     refine qp rfl rfl rfl ?_
     refine qp rfl rfl rfl ?_
     refine qp rfl rfl rfl ?_
     refine qp rfl rfl rfl ?_
     refine step_pure rfl (pure_pick_yes rfl rfl) ?_
     refine step_nil ?_
     refine less_of ⟨rfl, rfl, rfl, ?_, trivial⟩ rfl
     refine congrArg some (congrArg Value.bool ?_)
     clear hv q0 q1
     rw [Bool.eq_iff_iff]
     simp_all
     try omega
    ·refine qm rfl rfl ?_
     refine qm rfl rfl ?_
     refine step_as rfl (pure_indexAddr_at rfl rfl rfl rfl rfl (by omega) (by omega)) (show _ = Value.pointer (some (p.add (i * 2))) from by show Value.pointer (some (p.add ((i : Int).toNat * 2))) = _; rw [Int.toNat_natCast]) ?_
     refine step_pure rfl (pure_fieldAddr_at rfl rfl rfl rfl rfl (by decide)) ?_
     refine step_pure rfl (pure_cel rfl rfl rfl q0) ?_
     refine step_pure rfl (pure_gtr rfl rfl) ?_
     refine step_pure rfl (pure_pick_no rfl rfl) ?_
     refine qm rfl rfl ?_
     refine step_split (t := 29) rfl (fun h29 => ?_) (fun h29 => ?_)
     ·refine qp rfl rfl rfl ?_
      refine qp rfl rfl rfl ?_
      refine qp rfl rfl rfl ?_
      refine qp rfl rfl rfl ?_
      refine qp rfl rfl rfl ?_
      refine qp rfl rfl rfl ?_
      refine step_pure rfl (pure_pick_yes rfl rfl) ?_
      refine qm rfl rfl ?_
      refine qp rfl rfl rfl ?_
      refine qp rfl rfl rfl ?_
      refine qp rfl rfl rfl ?_
      refine qp rfl rfl rfl ?_
      refine qp rfl rfl rfl ?_
      refine qp rfl rfl rfl ?_
      refine step_pure rfl (pure_pick_yes rfl rfl) ?_
      refine step_nil ?_
      refine less_of ⟨rfl, rfl, rfl, ?_, trivial⟩ rfl
      refine congrArg some (congrArg Value.bool ?_)
      clear hv q0 q1
      rw [Bool.eq_iff_iff]
      simp_all
      try omega
     ·refine qm rfl rfl ?_
      refine qm rfl rfl ?_
      refine step_as rfl (pure_indexAddr_at rfl rfl rfl rfl rfl (by omega) (by omega)) (show _ = Value.pointer (some (p.add (i * 2))) from by show Value.pointer (some (p.add ((i : Int).toNat * 2))) = _; rw [Int.toNat_natCast]) ?_
      refine step_pure rfl (pure_fieldAddr_at rfl rfl rfl rfl rfl (by decide)) ?_
      refine step_pure rfl (pure_cel rfl rfl rfl q1) ?_
      refine step_pure rfl (pure_lss rfl rfl) ?_
      refine step_pure rfl (pure_pick_no rfl rfl) ?_
      refine qm rfl rfl ?_
      refine step_split (t := 37) rfl (fun h37 => ?_) (fun h37 => ?_)
      ·refine qp rfl rfl rfl ?_
       refine qp rfl rfl rfl ?_
       refine qp rfl rfl rfl ?_
       refine qp rfl rfl rfl ?_
       refine qp rfl rfl rfl ?_
       refine qp rfl rfl rfl ?_
       refine step_pure rfl (pure_pick_yes rfl rfl) ?_
       refine step_nil ?_
       refine less_of ⟨rfl, rfl, rfl, ?_, trivial⟩ rfl
       refine congrArg some (congrArg Value.bool ?_)
       clear hv q0 q1
       rw [Bool.eq_iff_iff]
       simp_all
       try omega
      ·refine qm rfl rfl ?_
       refine qm rfl rfl ?_
       refine step_as rfl (pure_indexAddr_at rfl rfl rfl rfl rfl (by omega) (by omega)) (show _ = Value.pointer (some (p.add (i * 2))) from by show Value.pointer (some (p.add ((i : Int).toNat * 2))) = _; rw [Int.toNat_natCast]) ?_
       refine step_pure rfl (pure_fieldAddr_at rfl rfl rfl rfl rfl (by decide)) ?_
       refine step_pure rfl (pure_cel rfl rfl rfl q1) ?_
       refine step_pure rfl (pure_gtr rfl rfl) ?_
       refine step_pure rfl (pure_pick_no rfl rfl) ?_
       refine step_nil ?_
       refine less_of ⟨rfl, rfl, rfl, ?_, trivial⟩ rfl
       refine congrArg some (congrArg Value.bool ?_)
       clear hv q0 q1
       rw [Bool.eq_iff_iff]
       simp_all
       try omega
   cases hb : okCell c with
   | false =>
    repeat refine c_seq ?_
    refine c_cond_yes rfl rfl ?_
    repeat refine c_seq ?_
    refine c_region ?_
    refine qa rfl rfl ?_
    refine step_nil ?_
    refine c_ret ⟨_, res_tmp Try.results57 rfl, congrArg Value.bool ?_⟩
    unfold okCells
    rw [show l.all okCell = false from by
     rw [List.all_eq_false]
     exact ⟨c, hmem, by rw [hb]; decide⟩, Bool.and_false]
   | true =>
    rw [hb, ha] at hnx
    repeat refine c_seq ?_
    refine c_cond_no rfl rfl ?_
    refine c_skip ?_
    repeat refine c_seq ?_
    refine c_region ?_
    refine qm rfl rfl ?_
    first | refine step_pure rfl (pure_add64 rfl rfl (by omega) (by omega)) ?_ | refine step_pure rfl (pure_add rfl rfl) ?_
    refine qa rfl rfl ?_
    refine step_nil ?_
    refine ⟨i + 1, ⟨hlt, hnx⟩, by omega, less_of ⟨rfl, rfl, rfl, trivial⟩ rfl⟩
  ·have hie : i = l.length := by have := of_decide_eq_false h; omega
   rw [hie, List.take_length] at ha
   refine c_exit ?_
   repeat refine c_seq ?_
   refine c_region ?_
   refine qa rfl rfl ?_
   refine step_nil ?_
   exact c_ret ⟨_, res_tmp Try.results57 rfl, by unfold okCells; rw [ha, decide_eq_true rfl]; rfl⟩
 ·repeat refine c_seq ?_
  refine c_cond_yes rfl (by simpa using hn) ?_
  repeat refine c_seq ?_
  refine c_region ?_
  refine qa rfl rfl ?_
  refine step_nil ?_
  exact c_ret ⟨_, res_tmp Try.results57 rfl, by unfold okCells; rw [decide_eq_false hn]; rfl⟩
set_option maxHeartbeats 2000000 in
theorem rcheck_any (s : Scr) (cs : List Value) (w : World) (hs : ScV (At w) s cs) (h1 : s.cells.length ≤ maxLen) (h2 : s.main.length ≤ maxLen) : Gives tb 38 [.agg cs.toArray] w (.int .i64 (ckE s)) := by
 obtain ⟨v1, v2, rfl, hc, hm⟩ := hs
 have hmc := fun w' (kp : Keep w w' []) => rcells_any s.cells v1 (s.W * s.H) w' (hc.mono (at_keep kp)) h1
 have hmm := fun w' (kp : Keep w w' []) => rcells_any s.main v2 (if s.alt = true then s.W * s.H else 0) w' (hm.mono (at_keep kp)) h2
 have hokd : scOk s = (decide (1 ≤ s.W ∧ s.W ≤ 64 ∧ 1 ≤ s.H ∧ s.H ≤ 64) && (okCells s.cells (s.W * s.H) && (okCells s.main (if s.alt = true then s.W * s.H else 0) &&
  decide ((0 ≤ s.X ∧ s.X < s.W) ∧ (0 ≤ s.Y ∧ s.Y < s.H) ∧ (0 ≤ s.A ∧ s.A ≤ 2047) ∧ (0 ≤ s.top ∧ s.top ≤ s.bot ∧ s.bot < s.H) ∧ (0 ≤ s.s0 ∧ s.s0 < 64) ∧ (0 ≤ s.s1 ∧ s.s1 < 64) ∧ (0 ≤ s.s2 ∧ s.s2 ≤ 2047))))) := rfl
 have hsd2 : decide (1 ≤ s.W ∧ s.W ≤ 64 ∧ 1 ≤ s.H ∧ s.H ≤ 64) = (side s.W && side s.H) := by
  unfold side
  rw [Bool.eq_iff_iff]
  simp only [Bool.and_eq_true, decide_eq_true_eq]
  omega
 rw [hsd2] at hokd
 clear hsd2
 obtain ⟨a1, c1, rfl, _⟩ := slc_sl hc
 obtain ⟨a2, c2, rfl, _⟩ := slc_sl hm
 clear hc hm
 refine gives_of (fn := Try.f38) Try.func38 rfl Try.ntmps38 rfl ?_
 unfold ckE
 repeat refine c_seq ?_
 refine c_region ?_
 refine step_box_agg rfl rfl (fun b1 => ?_)
 refine qa rfl rfl ?_
 refine step_nil ?_
 repeat refine c_seq ?_
 refine c_meet [(1, .pointer (some ⟨b1, 0, none⟩)), (18, .bool (!(side s.W && side s.H)))] [⟨b1, scC s (.slice a1 s.cells.length c1) (.slice a2 s.main.length c2), tSc⟩] ?_ ?_
 ·clear hokd hmc hmm
  have hsw := fun w => side_any s.W w
  have hsh := fun w => side_any s.H w
  generalize side s.W = x at *
  generalize side s.H = y at *
  repeat refine c_seq ?_
  refine c_region ?_
  refine step_pure rfl (pure_fieldAddr rfl rfl rfl rfl rfl (by decide)) ?_
  first | refine step_pure rfl (pure_load (i := 0) rfl rfl rfl rfl rfl rfl) ?_ | refine step_pure rfl (pure_load (i := 1) rfl rfl rfl rfl rfl rfl) ?_ | refine step_pure rfl (pure_load (i := 2) rfl rfl rfl rfl rfl rfl) ?_ | refine step_pure rfl (pure_load (i := 3) rfl rfl rfl rfl rfl rfl) ?_ | refine step_pure rfl (pure_load (i := 4) rfl rfl rfl rfl rfl rfl) ?_ | refine step_pure rfl (pure_load (i := 5) rfl rfl rfl rfl rfl rfl) ?_
  refine step_gives rfl fun39 rfl (fun w _ _ => hsw w) ?_
  refine step_pure rfl (pure_not rfl) ?_
  refine qm rfl rfl ?_
  refine step_split (t := 13) rfl (fun h13 => ?_) (fun h13 => ?_)
  ·refine qp rfl rfl rfl ?_
   refine qp rfl rfl rfl ?_
   refine qp rfl rfl rfl ?_
   refine qp rfl rfl rfl ?_
   refine step_pure rfl (pure_pick_yes rfl rfl) ?_
   refine step_nil ?_
   refine less_of ⟨rfl, ?_, trivial⟩ rfl
   refine congrArg some (congrArg Value.bool ?_)
   clear hsw hsh
   simp_all
  ·refine step_pure rfl (pure_fieldAddr rfl rfl rfl rfl rfl (by decide)) ?_
   first | refine step_pure rfl (pure_load (i := 0) rfl rfl rfl rfl rfl rfl) ?_ | refine step_pure rfl (pure_load (i := 1) rfl rfl rfl rfl rfl rfl) ?_ | refine step_pure rfl (pure_load (i := 2) rfl rfl rfl rfl rfl rfl) ?_ | refine step_pure rfl (pure_load (i := 3) rfl rfl rfl rfl rfl rfl) ?_ | refine step_pure rfl (pure_load (i := 4) rfl rfl rfl rfl rfl rfl) ?_ | refine step_pure rfl (pure_load (i := 5) rfl rfl rfl rfl rfl rfl) ?_
   refine step_gives rfl fun39 rfl (fun w _ _ => hsh w) ?_
   refine step_pure rfl (pure_not rfl) ?_
   refine step_pure rfl (pure_pick_no rfl rfl) ?_
   refine step_nil ?_
   refine less_of ⟨rfl, ?_, trivial⟩ rfl
   refine congrArg some (congrArg Value.bool ?_)
   clear hsw hsh
   simp_all
 cases hsd : (side s.W && side s.H) with
 | false =>
  rw [hsd, Bool.false_and] at hokd
  rw [hokd]
  repeat refine c_seq ?_
  refine c_cond_yes rfl rfl ?_
  repeat refine c_seq ?_
  refine c_region ?_
  refine qa rfl rfl ?_
  refine step_nil ?_
  exact c_ret ⟨_, res_tmp Try.results38 rfl, rfl⟩
 | true =>
  rw [hsd, Bool.true_and] at hokd
  obtain ⟨k1, k2⟩ := Bool.and_eq_true_iff.1 hsd
  have k1 := side_in k1
  have k2 := side_in k2
  have hwr := wrapWH (s := s) ⟨k1.1, k1.2, k2.1, k2.2⟩
  repeat refine c_seq ?_
  refine c_cond_no rfl rfl ?_
  refine c_skip ?_
  repeat refine c_seq ?_
  refine c_region ?_
  refine qa rfl rfl ?_
  refine step_nil ?_
  repeat refine c_seq ?_
  refine c_region ?_
  refine step_pure rfl (pure_fieldAddr rfl rfl rfl rfl rfl (by decide)) ?_
  first | refine step_pure rfl (pure_load (i := 0) rfl rfl rfl rfl rfl rfl) ?_ | refine step_pure rfl (pure_load (i := 1) rfl rfl rfl rfl rfl rfl) ?_ | refine step_pure rfl (pure_load (i := 2) rfl rfl rfl rfl rfl rfl) ?_ | refine step_pure rfl (pure_load (i := 3) rfl rfl rfl rfl rfl rfl) ?_ | refine step_pure rfl (pure_load (i := 4) rfl rfl rfl rfl rfl rfl) ?_ | refine step_pure rfl (pure_load (i := 5) rfl rfl rfl rfl rfl rfl) ?_
  refine step_nil ?_
  repeat refine c_seq ?_
  refine c_meet [(1, .pointer (some ⟨b1, 0, none⟩)), (3, .int .i64 (if s.alt = true then s.W * s.H else 0))] [⟨b1, scC s (.slice a1 s.cells.length c1) (.slice a2 s.main.length c2), tSc⟩] ?_ ?_
  ·repeat refine c_seq ?_
   refine c_cond rfl (fun h => ?_) (fun h => ?_)
   ·rw [if_pos h]
    repeat refine c_seq ?_
    refine c_region ?_
    refine step_pure rfl (pure_fieldAddr rfl rfl rfl rfl rfl (by decide)) ?_
    first | refine step_pure rfl (pure_load (i := 0) rfl rfl rfl rfl rfl rfl) ?_ | refine step_pure rfl (pure_load (i := 1) rfl rfl rfl rfl rfl rfl) ?_ | refine step_pure rfl (pure_load (i := 2) rfl rfl rfl rfl rfl rfl) ?_ | refine step_pure rfl (pure_load (i := 3) rfl rfl rfl rfl rfl rfl) ?_ | refine step_pure rfl (pure_load (i := 4) rfl rfl rfl rfl rfl rfl) ?_ | refine step_pure rfl (pure_load (i := 5) rfl rfl rfl rfl rfl rfl) ?_
    refine step_pure rfl (pure_fieldAddr rfl rfl rfl rfl rfl (by decide)) ?_
    first | refine step_pure rfl (pure_load (i := 0) rfl rfl rfl rfl rfl rfl) ?_ | refine step_pure rfl (pure_load (i := 1) rfl rfl rfl rfl rfl rfl) ?_ | refine step_pure rfl (pure_load (i := 2) rfl rfl rfl rfl rfl rfl) ?_ | refine step_pure rfl (pure_load (i := 3) rfl rfl rfl rfl rfl rfl) ?_ | refine step_pure rfl (pure_load (i := 4) rfl rfl rfl rfl rfl rfl) ?_ | refine step_pure rfl (pure_load (i := 5) rfl rfl rfl rfl rfl rfl) ?_
    refine step_as rfl (pure_mul rfl rfl) (congrArg (Value.int .i64) hwr) ?_
    refine qa rfl rfl ?_
    refine step_nil ?_
    exact less_of ⟨rfl, rfl, trivial⟩ rfl
   ·rw [if_neg (by rw [h]; decide)]
    exact c_skip (less_of ⟨rfl, rfl, trivial⟩ rfl)
  generalize (if s.alt = true then s.W * s.H else 0) = mn at *
  repeat refine c_seq ?_
  refine c_region ?_
  refine step_pure rfl (pure_fieldAddr rfl rfl rfl rfl rfl (by decide)) ?_
  first | refine step_pure rfl (pure_load (i := 0) rfl rfl rfl rfl rfl rfl) ?_ | refine step_pure rfl (pure_load (i := 1) rfl rfl rfl rfl rfl rfl) ?_ | refine step_pure rfl (pure_load (i := 2) rfl rfl rfl rfl rfl rfl) ?_ | refine step_pure rfl (pure_load (i := 3) rfl rfl rfl rfl rfl rfl) ?_ | refine step_pure rfl (pure_load (i := 4) rfl rfl rfl rfl rfl rfl) ?_ | refine step_pure rfl (pure_load (i := 5) rfl rfl rfl rfl rfl rfl) ?_
  refine step_pure rfl (pure_fieldAddr rfl rfl rfl rfl rfl (by decide)) ?_
  first | refine step_pure rfl (pure_load (i := 0) rfl rfl rfl rfl rfl rfl) ?_ | refine step_pure rfl (pure_load (i := 1) rfl rfl rfl rfl rfl rfl) ?_ | refine step_pure rfl (pure_load (i := 2) rfl rfl rfl rfl rfl rfl) ?_ | refine step_pure rfl (pure_load (i := 3) rfl rfl rfl rfl rfl rfl) ?_ | refine step_pure rfl (pure_load (i := 4) rfl rfl rfl rfl rfl rfl) ?_ | refine step_pure rfl (pure_load (i := 5) rfl rfl rfl rfl rfl rfl) ?_
  refine step_pure rfl (pure_fieldAddr rfl rfl rfl rfl rfl (by decide)) ?_
  first | refine step_pure rfl (pure_load (i := 0) rfl rfl rfl rfl rfl rfl) ?_ | refine step_pure rfl (pure_load (i := 1) rfl rfl rfl rfl rfl rfl) ?_ | refine step_pure rfl (pure_load (i := 2) rfl rfl rfl rfl rfl rfl) ?_ | refine step_pure rfl (pure_load (i := 3) rfl rfl rfl rfl rfl rfl) ?_ | refine step_pure rfl (pure_load (i := 4) rfl rfl rfl rfl rfl rfl) ?_ | refine step_pure rfl (pure_load (i := 5) rfl rfl rfl rfl rfl rfl) ?_
  refine step_as rfl (pure_mul rfl rfl) (congrArg (Value.int .i64) hwr) ?_
  refine step_gives rfl fun57 rfl (fun w' hh kp => hmc w' kp) ?_
  refine qa rfl rfl ?_
  refine step_nil ?_
  repeat refine c_seq ?_
  refine c_region ?_
  refine step_pure rfl (pure_fieldAddr rfl rfl rfl rfl rfl (by decide)) ?_
  first | refine step_pure rfl (pure_load (i := 0) rfl rfl rfl rfl rfl rfl) ?_ | refine step_pure rfl (pure_load (i := 1) rfl rfl rfl rfl rfl rfl) ?_ | refine step_pure rfl (pure_load (i := 2) rfl rfl rfl rfl rfl rfl) ?_ | refine step_pure rfl (pure_load (i := 3) rfl rfl rfl rfl rfl rfl) ?_ | refine step_pure rfl (pure_load (i := 4) rfl rfl rfl rfl rfl rfl) ?_ | refine step_pure rfl (pure_load (i := 5) rfl rfl rfl rfl rfl rfl) ?_
  refine qm rfl rfl ?_
  refine step_gives rfl fun57 rfl (fun w' hh kp => hmm w' kp) ?_
  refine qa rfl rfl ?_
  refine step_nil ?_
  clear hmc hmm
  generalize okCells s.cells (s.W * s.H) = oc at *
  generalize okCells s.main mn = om at *
  repeat refine c_seq ?_
  refine c_meet [(1, .pointer (some ⟨b1, 0, none⟩)), (4, .bool oc), (5, .bool om), (6, .bool (decide ((0 ≤ s.X ∧ s.X < s.W) ∧ (0 ≤ s.Y ∧ s.Y < s.H) ∧ (0 ≤ s.A ∧ s.A ≤ 2047))))] [⟨b1, scC s (.slice a1 s.cells.length c1) (.slice a2 s.main.length c2), tSc⟩] ?_ ?_
  ·clear hokd
   repeat refine c_seq ?_
   refine c_region ?_
   refine step_pure rfl (pure_fieldAddr rfl rfl rfl rfl rfl (by decide)) ?_
   first | refine step_pure rfl (pure_load (i := 0) rfl rfl rfl rfl rfl rfl) ?_ | refine step_pure rfl (pure_load (i := 1) rfl rfl rfl rfl rfl rfl) ?_ | refine step_pure rfl (pure_load (i := 2) rfl rfl rfl rfl rfl rfl) ?_ | refine step_pure rfl (pure_load (i := 3) rfl rfl rfl rfl rfl rfl) ?_ | refine step_pure rfl (pure_load (i := 4) rfl rfl rfl rfl rfl rfl) ?_ | refine step_pure rfl (pure_load (i := 5) rfl rfl rfl rfl rfl rfl) ?_
   refine step_pure rfl (pure_geq rfl rfl) ?_
   refine qm rfl rfl ?_
   refine step_split (t := 41) rfl (fun h41 => ?_) (fun h41 => ?_)
   ·refine step_pure rfl (pure_fieldAddr rfl rfl rfl rfl rfl (by decide)) ?_
    first | refine step_pure rfl (pure_load (i := 0) rfl rfl rfl rfl rfl rfl) ?_ | refine step_pure rfl (pure_load (i := 1) rfl rfl rfl rfl rfl rfl) ?_ | refine step_pure rfl (pure_load (i := 2) rfl rfl rfl rfl rfl rfl) ?_ | refine step_pure rfl (pure_load (i := 3) rfl rfl rfl rfl rfl rfl) ?_ | refine step_pure rfl (pure_load (i := 4) rfl rfl rfl rfl rfl rfl) ?_ | refine step_pure rfl (pure_load (i := 5) rfl rfl rfl rfl rfl rfl) ?_
    refine step_pure rfl (pure_fieldAddr rfl rfl rfl rfl rfl (by decide)) ?_
    first | refine step_pure rfl (pure_load (i := 0) rfl rfl rfl rfl rfl rfl) ?_ | refine step_pure rfl (pure_load (i := 1) rfl rfl rfl rfl rfl rfl) ?_ | refine step_pure rfl (pure_load (i := 2) rfl rfl rfl rfl rfl rfl) ?_ | refine step_pure rfl (pure_load (i := 3) rfl rfl rfl rfl rfl rfl) ?_ | refine step_pure rfl (pure_load (i := 4) rfl rfl rfl rfl rfl rfl) ?_ | refine step_pure rfl (pure_load (i := 5) rfl rfl rfl rfl rfl rfl) ?_
    refine step_pure rfl (pure_lss rfl rfl) ?_
    refine step_pure rfl (pure_pick_yes rfl rfl) ?_
    refine qm rfl rfl ?_
    refine step_split (t := 48) rfl (fun h48 => ?_) (fun h48 => ?_)
    ·refine step_pure rfl (pure_fieldAddr rfl rfl rfl rfl rfl (by decide)) ?_
     first | refine step_pure rfl (pure_load (i := 0) rfl rfl rfl rfl rfl rfl) ?_ | refine step_pure rfl (pure_load (i := 1) rfl rfl rfl rfl rfl rfl) ?_ | refine step_pure rfl (pure_load (i := 2) rfl rfl rfl rfl rfl rfl) ?_ | refine step_pure rfl (pure_load (i := 3) rfl rfl rfl rfl rfl rfl) ?_ | refine step_pure rfl (pure_load (i := 4) rfl rfl rfl rfl rfl rfl) ?_ | refine step_pure rfl (pure_load (i := 5) rfl rfl rfl rfl rfl rfl) ?_
     refine step_pure rfl (pure_geq rfl rfl) ?_
     refine step_pure rfl (pure_pick_yes rfl rfl) ?_
     refine qm rfl rfl ?_
     refine step_split (t := 53) rfl (fun h53 => ?_) (fun h53 => ?_)
     ·refine step_pure rfl (pure_fieldAddr rfl rfl rfl rfl rfl (by decide)) ?_
      first | refine step_pure rfl (pure_load (i := 0) rfl rfl rfl rfl rfl rfl) ?_ | refine step_pure rfl (pure_load (i := 1) rfl rfl rfl rfl rfl rfl) ?_ | refine step_pure rfl (pure_load (i := 2) rfl rfl rfl rfl rfl rfl) ?_ | refine step_pure rfl (pure_load (i := 3) rfl rfl rfl rfl rfl rfl) ?_ | refine step_pure rfl (pure_load (i := 4) rfl rfl rfl rfl rfl rfl) ?_ | refine step_pure rfl (pure_load (i := 5) rfl rfl rfl rfl rfl rfl) ?_
      refine step_pure rfl (pure_fieldAddr rfl rfl rfl rfl rfl (by decide)) ?_
      first | refine step_pure rfl (pure_load (i := 0) rfl rfl rfl rfl rfl rfl) ?_ | refine step_pure rfl (pure_load (i := 1) rfl rfl rfl rfl rfl rfl) ?_ | refine step_pure rfl (pure_load (i := 2) rfl rfl rfl rfl rfl rfl) ?_ | refine step_pure rfl (pure_load (i := 3) rfl rfl rfl rfl rfl rfl) ?_ | refine step_pure rfl (pure_load (i := 4) rfl rfl rfl rfl rfl rfl) ?_ | refine step_pure rfl (pure_load (i := 5) rfl rfl rfl rfl rfl rfl) ?_
      refine step_pure rfl (pure_lss rfl rfl) ?_
      refine step_pure rfl (pure_pick_yes rfl rfl) ?_
      refine qm rfl rfl ?_
      refine step_split (t := 60) rfl (fun h60 => ?_) (fun h60 => ?_)
      ·refine step_pure rfl (pure_fieldAddr rfl rfl rfl rfl rfl (by decide)) ?_
       first | refine step_pure rfl (pure_load (i := 0) rfl rfl rfl rfl rfl rfl) ?_ | refine step_pure rfl (pure_load (i := 1) rfl rfl rfl rfl rfl rfl) ?_ | refine step_pure rfl (pure_load (i := 2) rfl rfl rfl rfl rfl rfl) ?_ | refine step_pure rfl (pure_load (i := 3) rfl rfl rfl rfl rfl rfl) ?_ | refine step_pure rfl (pure_load (i := 4) rfl rfl rfl rfl rfl rfl) ?_ | refine step_pure rfl (pure_load (i := 5) rfl rfl rfl rfl rfl rfl) ?_
       refine step_pure rfl (pure_geq rfl rfl) ?_
       refine step_pure rfl (pure_pick_yes rfl rfl) ?_
       refine qm rfl rfl ?_
       refine step_split (t := 65) rfl (fun h65 => ?_) (fun h65 => ?_)
       ·refine step_pure rfl (pure_fieldAddr rfl rfl rfl rfl rfl (by decide)) ?_
        first | refine step_pure rfl (pure_load (i := 0) rfl rfl rfl rfl rfl rfl) ?_ | refine step_pure rfl (pure_load (i := 1) rfl rfl rfl rfl rfl rfl) ?_ | refine step_pure rfl (pure_load (i := 2) rfl rfl rfl rfl rfl rfl) ?_ | refine step_pure rfl (pure_load (i := 3) rfl rfl rfl rfl rfl rfl) ?_ | refine step_pure rfl (pure_load (i := 4) rfl rfl rfl rfl rfl rfl) ?_ | refine step_pure rfl (pure_load (i := 5) rfl rfl rfl rfl rfl rfl) ?_
        refine step_pure rfl (pure_leq rfl rfl) ?_
        refine step_pure rfl (pure_pick_yes rfl rfl) ?_
        refine qa rfl rfl ?_
        refine step_nil ?_
        refine less_of ⟨rfl, rfl, rfl, ?_, trivial⟩ rfl
        refine congrArg some (congrArg Value.bool ?_)
        rw [Bool.eq_iff_iff]
        simp_all
        try omega
       ·refine qp rfl rfl rfl ?_
        refine qp rfl rfl rfl ?_
        refine qp rfl rfl rfl ?_
        refine step_pure rfl (pure_pick_no rfl rfl) ?_
        refine qa rfl rfl ?_
        refine step_nil ?_
        refine less_of ⟨rfl, rfl, rfl, ?_, trivial⟩ rfl
        refine congrArg some (congrArg Value.bool ?_)
        rw [Bool.eq_iff_iff]
        simp_all
        try omega
      ·refine qp rfl rfl rfl ?_
       refine qp rfl rfl rfl ?_
       refine qp rfl rfl rfl ?_
       refine step_pure rfl (pure_pick_no rfl rfl) ?_
       refine qm rfl rfl ?_
       refine qp rfl rfl rfl ?_
       refine qp rfl rfl rfl ?_
       refine qp rfl rfl rfl ?_
       refine step_pure rfl (pure_pick_no rfl rfl) ?_
       refine qa rfl rfl ?_
       refine step_nil ?_
       refine less_of ⟨rfl, rfl, rfl, ?_, trivial⟩ rfl
       refine congrArg some (congrArg Value.bool ?_)
       rw [Bool.eq_iff_iff]
       simp_all
       try omega
     ·refine qp rfl rfl rfl ?_
      refine qp rfl rfl rfl ?_
      refine qp rfl rfl rfl ?_
      refine qp rfl rfl rfl ?_
      refine qp rfl rfl rfl ?_
      refine step_pure rfl (pure_pick_no rfl rfl) ?_
      refine qm rfl rfl ?_
      refine qp rfl rfl rfl ?_
      refine qp rfl rfl rfl ?_
      refine qp rfl rfl rfl ?_
      refine step_pure rfl (pure_pick_no rfl rfl) ?_
      refine qm rfl rfl ?_
      refine qp rfl rfl rfl ?_
      refine qp rfl rfl rfl ?_
      refine qp rfl rfl rfl ?_
      refine step_pure rfl (pure_pick_no rfl rfl) ?_
      refine qa rfl rfl ?_
      refine step_nil ?_
      refine less_of ⟨rfl, rfl, rfl, ?_, trivial⟩ rfl
      refine congrArg some (congrArg Value.bool ?_)
      rw [Bool.eq_iff_iff]
      simp_all
      try omega
    ·refine qp rfl rfl rfl ?_
     refine qp rfl rfl rfl ?_
     refine qp rfl rfl rfl ?_
     refine step_pure rfl (pure_pick_no rfl rfl) ?_
     refine qm rfl rfl ?_
     refine qp rfl rfl rfl ?_
     refine qp rfl rfl rfl ?_
     refine qp rfl rfl rfl ?_
     refine qp rfl rfl rfl ?_
     refine qp rfl rfl rfl ?_
     refine step_pure rfl (pure_pick_no rfl rfl) ?_
     refine qm rfl rfl ?_
     refine qp rfl rfl rfl ?_
     refine qp rfl rfl rfl ?_
     refine qp rfl rfl rfl ?_
     refine step_pure rfl (pure_pick_no rfl rfl) ?_
     refine qm rfl rfl ?_
     refine qp rfl rfl rfl ?_
     refine qp rfl rfl rfl ?_
     refine qp rfl rfl rfl ?_
     refine step_pure rfl (pure_pick_no rfl rfl) ?_
     refine qa rfl rfl ?_
     refine step_nil ?_
     refine less_of ⟨rfl, rfl, rfl, ?_, trivial⟩ rfl
     refine congrArg some (congrArg Value.bool ?_)
     rw [Bool.eq_iff_iff]
     simp_all
     try omega
   ·refine qp rfl rfl rfl ?_
    refine qp rfl rfl rfl ?_
    refine qp rfl rfl rfl ?_
    refine qp rfl rfl rfl ?_
    refine qp rfl rfl rfl ?_
    refine step_pure rfl (pure_pick_no rfl rfl) ?_
    refine qm rfl rfl ?_
    refine qp rfl rfl rfl ?_
    refine qp rfl rfl rfl ?_
    refine qp rfl rfl rfl ?_
    refine step_pure rfl (pure_pick_no rfl rfl) ?_
    refine qm rfl rfl ?_
    refine qp rfl rfl rfl ?_
    refine qp rfl rfl rfl ?_
    refine qp rfl rfl rfl ?_
    refine qp rfl rfl rfl ?_
    refine qp rfl rfl rfl ?_
    refine step_pure rfl (pure_pick_no rfl rfl) ?_
    refine qm rfl rfl ?_
    refine qp rfl rfl rfl ?_
    refine qp rfl rfl rfl ?_
    refine qp rfl rfl rfl ?_
    refine step_pure rfl (pure_pick_no rfl rfl) ?_
    refine qm rfl rfl ?_
    refine qp rfl rfl rfl ?_
    refine qp rfl rfl rfl ?_
    refine qp rfl rfl rfl ?_
    refine step_pure rfl (pure_pick_no rfl rfl) ?_
    refine qa rfl rfl ?_
    refine step_nil ?_
    refine less_of ⟨rfl, rfl, rfl, ?_, trivial⟩ rfl
    refine congrArg some (congrArg Value.bool ?_)
    rw [Bool.eq_iff_iff]
    simp_all
    try omega
  repeat refine c_seq ?_
  refine c_meet [(1, .pointer (some ⟨b1, 0, none⟩)), (4, .bool oc), (5, .bool om), (6, .bool (decide ((0 ≤ s.X ∧ s.X < s.W) ∧ (0 ≤ s.Y ∧ s.Y < s.H) ∧ (0 ≤ s.A ∧ s.A ≤ 2047)))), (7, .bool (decide (0 ≤ s.top ∧ s.top ≤ s.bot ∧ s.bot < s.H)))] [⟨b1, scC s (.slice a1 s.cells.length c1) (.slice a2 s.main.length c2), tSc⟩] ?_ ?_
  ·clear hokd
   repeat refine c_seq ?_
   refine c_region ?_
   refine step_pure rfl (pure_fieldAddr rfl rfl rfl rfl rfl (by decide)) ?_
   first | refine step_pure rfl (pure_load (i := 0) rfl rfl rfl rfl rfl rfl) ?_ | refine step_pure rfl (pure_load (i := 1) rfl rfl rfl rfl rfl rfl) ?_ | refine step_pure rfl (pure_load (i := 2) rfl rfl rfl rfl rfl rfl) ?_ | refine step_pure rfl (pure_load (i := 3) rfl rfl rfl rfl rfl rfl) ?_ | refine step_pure rfl (pure_load (i := 4) rfl rfl rfl rfl rfl rfl) ?_ | refine step_pure rfl (pure_load (i := 5) rfl rfl rfl rfl rfl rfl) ?_
   refine step_pure rfl (pure_geq rfl rfl) ?_
   refine qm rfl rfl ?_
   refine step_split (t := 73) rfl (fun h73 => ?_) (fun h73 => ?_)
   ·refine step_pure rfl (pure_fieldAddr rfl rfl rfl rfl rfl (by decide)) ?_
    first | refine step_pure rfl (pure_load (i := 0) rfl rfl rfl rfl rfl rfl) ?_ | refine step_pure rfl (pure_load (i := 1) rfl rfl rfl rfl rfl rfl) ?_ | refine step_pure rfl (pure_load (i := 2) rfl rfl rfl rfl rfl rfl) ?_ | refine step_pure rfl (pure_load (i := 3) rfl rfl rfl rfl rfl rfl) ?_ | refine step_pure rfl (pure_load (i := 4) rfl rfl rfl rfl rfl rfl) ?_ | refine step_pure rfl (pure_load (i := 5) rfl rfl rfl rfl rfl rfl) ?_
    refine step_pure rfl (pure_fieldAddr rfl rfl rfl rfl rfl (by decide)) ?_
    first | refine step_pure rfl (pure_load (i := 0) rfl rfl rfl rfl rfl rfl) ?_ | refine step_pure rfl (pure_load (i := 1) rfl rfl rfl rfl rfl rfl) ?_ | refine step_pure rfl (pure_load (i := 2) rfl rfl rfl rfl rfl rfl) ?_ | refine step_pure rfl (pure_load (i := 3) rfl rfl rfl rfl rfl rfl) ?_ | refine step_pure rfl (pure_load (i := 4) rfl rfl rfl rfl rfl rfl) ?_ | refine step_pure rfl (pure_load (i := 5) rfl rfl rfl rfl rfl rfl) ?_
    refine step_pure rfl (pure_leq rfl rfl) ?_
    refine step_pure rfl (pure_pick_yes rfl rfl) ?_
    refine qm rfl rfl ?_
    refine step_split (t := 80) rfl (fun h80 => ?_) (fun h80 => ?_)
    ·refine step_pure rfl (pure_fieldAddr rfl rfl rfl rfl rfl (by decide)) ?_
     first | refine step_pure rfl (pure_load (i := 0) rfl rfl rfl rfl rfl rfl) ?_ | refine step_pure rfl (pure_load (i := 1) rfl rfl rfl rfl rfl rfl) ?_ | refine step_pure rfl (pure_load (i := 2) rfl rfl rfl rfl rfl rfl) ?_ | refine step_pure rfl (pure_load (i := 3) rfl rfl rfl rfl rfl rfl) ?_ | refine step_pure rfl (pure_load (i := 4) rfl rfl rfl rfl rfl rfl) ?_ | refine step_pure rfl (pure_load (i := 5) rfl rfl rfl rfl rfl rfl) ?_
     refine step_pure rfl (pure_fieldAddr rfl rfl rfl rfl rfl (by decide)) ?_
     first | refine step_pure rfl (pure_load (i := 0) rfl rfl rfl rfl rfl rfl) ?_ | refine step_pure rfl (pure_load (i := 1) rfl rfl rfl rfl rfl rfl) ?_ | refine step_pure rfl (pure_load (i := 2) rfl rfl rfl rfl rfl rfl) ?_ | refine step_pure rfl (pure_load (i := 3) rfl rfl rfl rfl rfl rfl) ?_ | refine step_pure rfl (pure_load (i := 4) rfl rfl rfl rfl rfl rfl) ?_ | refine step_pure rfl (pure_load (i := 5) rfl rfl rfl rfl rfl rfl) ?_
     refine step_pure rfl (pure_lss rfl rfl) ?_
     refine step_pure rfl (pure_pick_yes rfl rfl) ?_
     refine qa rfl rfl ?_
     refine step_nil ?_
     refine less_of ⟨rfl, rfl, rfl, rfl, ?_, trivial⟩ rfl
     refine congrArg some (congrArg Value.bool ?_)
     rw [Bool.eq_iff_iff]
     simp_all
     try omega
    ·refine qp rfl rfl rfl ?_
     refine qp rfl rfl rfl ?_
     refine qp rfl rfl rfl ?_
     refine qp rfl rfl rfl ?_
     refine qp rfl rfl rfl ?_
     refine step_pure rfl (pure_pick_no rfl rfl) ?_
     refine qa rfl rfl ?_
     refine step_nil ?_
     refine less_of ⟨rfl, rfl, rfl, rfl, ?_, trivial⟩ rfl
     refine congrArg some (congrArg Value.bool ?_)
     rw [Bool.eq_iff_iff]
     simp_all
     try omega
   ·refine qp rfl rfl rfl ?_
    refine qp rfl rfl rfl ?_
    refine qp rfl rfl rfl ?_
    refine qp rfl rfl rfl ?_
    refine qp rfl rfl rfl ?_
    refine step_pure rfl (pure_pick_no rfl rfl) ?_
    refine qm rfl rfl ?_
    refine qp rfl rfl rfl ?_
    refine qp rfl rfl rfl ?_
    refine qp rfl rfl rfl ?_
    refine qp rfl rfl rfl ?_
    refine qp rfl rfl rfl ?_
    refine step_pure rfl (pure_pick_no rfl rfl) ?_
    refine qa rfl rfl ?_
    refine step_nil ?_
    refine less_of ⟨rfl, rfl, rfl, rfl, ?_, trivial⟩ rfl
    refine congrArg some (congrArg Value.bool ?_)
    rw [Bool.eq_iff_iff]
    simp_all
    try omega
  repeat refine c_seq ?_
  refine c_meet [(4, .bool oc), (5, .bool om), (6, .bool (decide ((0 ≤ s.X ∧ s.X < s.W) ∧ (0 ≤ s.Y ∧ s.Y < s.H) ∧ (0 ≤ s.A ∧ s.A ≤ 2047)))), (7, .bool (decide (0 ≤ s.top ∧ s.top ≤ s.bot ∧ s.bot < s.H))), (8, .bool (decide ((0 ≤ s.s0 ∧ s.s0 < 64) ∧ (0 ≤ s.s1 ∧ s.s1 < 64) ∧ (0 ≤ s.s2 ∧ s.s2 ≤ 2047))))] [] ?_ ?_
  ·clear hokd
   repeat refine c_seq ?_
   refine c_region ?_
   refine step_pure rfl (pure_fieldAddr rfl rfl rfl rfl rfl (by decide)) ?_
   first | refine step_pure rfl (pure_ix rfl rfl rfl rfl rfl (by decide) (by decide) rfl) ?_ | refine step_pure rfl (pure_ix rfl rfl rfl rfl rfl (by omega) (by omega) rfl) ?_
   first | refine step_pure rfl (pure_load (i := 0) rfl rfl rfl rfl rfl rfl) ?_ | refine step_pure rfl (pure_load (i := 1) rfl rfl rfl rfl rfl rfl) ?_ | refine step_pure rfl (pure_load (i := 2) rfl rfl rfl rfl rfl rfl) ?_ | refine step_pure rfl (pure_load (i := 3) rfl rfl rfl rfl rfl rfl) ?_ | refine step_pure rfl (pure_load (i := 4) rfl rfl rfl rfl rfl rfl) ?_ | refine step_pure rfl (pure_load (i := 5) rfl rfl rfl rfl rfl rfl) ?_
   refine step_pure rfl (pure_geq rfl rfl) ?_
   refine qm rfl rfl ?_
   refine step_split (t := 91) rfl (fun h91 => ?_) (fun h91 => ?_)
   ·refine step_pure rfl (pure_fieldAddr rfl rfl rfl rfl rfl (by decide)) ?_
    first | refine step_pure rfl (pure_ix rfl rfl rfl rfl rfl (by decide) (by decide) rfl) ?_ | refine step_pure rfl (pure_ix rfl rfl rfl rfl rfl (by omega) (by omega) rfl) ?_
    first | refine step_pure rfl (pure_load (i := 0) rfl rfl rfl rfl rfl rfl) ?_ | refine step_pure rfl (pure_load (i := 1) rfl rfl rfl rfl rfl rfl) ?_ | refine step_pure rfl (pure_load (i := 2) rfl rfl rfl rfl rfl rfl) ?_ | refine step_pure rfl (pure_load (i := 3) rfl rfl rfl rfl rfl rfl) ?_ | refine step_pure rfl (pure_load (i := 4) rfl rfl rfl rfl rfl rfl) ?_ | refine step_pure rfl (pure_load (i := 5) rfl rfl rfl rfl rfl rfl) ?_
    refine step_pure rfl (pure_lss rfl rfl) ?_
    refine step_pure rfl (pure_pick_yes rfl rfl) ?_
    refine qm rfl rfl ?_
    refine step_split (t := 97) rfl (fun h97 => ?_) (fun h97 => ?_)
    ·refine step_pure rfl (pure_fieldAddr rfl rfl rfl rfl rfl (by decide)) ?_
     first | refine step_pure rfl (pure_ix rfl rfl rfl rfl rfl (by decide) (by decide) rfl) ?_ | refine step_pure rfl (pure_ix rfl rfl rfl rfl rfl (by omega) (by omega) rfl) ?_
     first | refine step_pure rfl (pure_load (i := 0) rfl rfl rfl rfl rfl rfl) ?_ | refine step_pure rfl (pure_load (i := 1) rfl rfl rfl rfl rfl rfl) ?_ | refine step_pure rfl (pure_load (i := 2) rfl rfl rfl rfl rfl rfl) ?_ | refine step_pure rfl (pure_load (i := 3) rfl rfl rfl rfl rfl rfl) ?_ | refine step_pure rfl (pure_load (i := 4) rfl rfl rfl rfl rfl rfl) ?_ | refine step_pure rfl (pure_load (i := 5) rfl rfl rfl rfl rfl rfl) ?_
     refine step_pure rfl (pure_geq rfl rfl) ?_
     refine step_pure rfl (pure_pick_yes rfl rfl) ?_
     refine qm rfl rfl ?_
     refine step_split (t := 103) rfl (fun h103 => ?_) (fun h103 => ?_)
     ·refine step_pure rfl (pure_fieldAddr rfl rfl rfl rfl rfl (by decide)) ?_
      first | refine step_pure rfl (pure_ix rfl rfl rfl rfl rfl (by decide) (by decide) rfl) ?_ | refine step_pure rfl (pure_ix rfl rfl rfl rfl rfl (by omega) (by omega) rfl) ?_
      first | refine step_pure rfl (pure_load (i := 0) rfl rfl rfl rfl rfl rfl) ?_ | refine step_pure rfl (pure_load (i := 1) rfl rfl rfl rfl rfl rfl) ?_ | refine step_pure rfl (pure_load (i := 2) rfl rfl rfl rfl rfl rfl) ?_ | refine step_pure rfl (pure_load (i := 3) rfl rfl rfl rfl rfl rfl) ?_ | refine step_pure rfl (pure_load (i := 4) rfl rfl rfl rfl rfl rfl) ?_ | refine step_pure rfl (pure_load (i := 5) rfl rfl rfl rfl rfl rfl) ?_
      refine step_pure rfl (pure_lss rfl rfl) ?_
      refine step_pure rfl (pure_pick_yes rfl rfl) ?_
      refine qm rfl rfl ?_
      refine step_split (t := 109) rfl (fun h109 => ?_) (fun h109 => ?_)
      ·refine step_pure rfl (pure_fieldAddr rfl rfl rfl rfl rfl (by decide)) ?_
       first | refine step_pure rfl (pure_ix rfl rfl rfl rfl rfl (by decide) (by decide) rfl) ?_ | refine step_pure rfl (pure_ix rfl rfl rfl rfl rfl (by omega) (by omega) rfl) ?_
       first | refine step_pure rfl (pure_load (i := 0) rfl rfl rfl rfl rfl rfl) ?_ | refine step_pure rfl (pure_load (i := 1) rfl rfl rfl rfl rfl rfl) ?_ | refine step_pure rfl (pure_load (i := 2) rfl rfl rfl rfl rfl rfl) ?_ | refine step_pure rfl (pure_load (i := 3) rfl rfl rfl rfl rfl rfl) ?_ | refine step_pure rfl (pure_load (i := 4) rfl rfl rfl rfl rfl rfl) ?_ | refine step_pure rfl (pure_load (i := 5) rfl rfl rfl rfl rfl rfl) ?_
       refine step_pure rfl (pure_geq rfl rfl) ?_
       refine step_pure rfl (pure_pick_yes rfl rfl) ?_
       refine qm rfl rfl ?_
       refine step_split (t := 115) rfl (fun h115 => ?_) (fun h115 => ?_)
       ·refine step_pure rfl (pure_fieldAddr rfl rfl rfl rfl rfl (by decide)) ?_
        first | refine step_pure rfl (pure_ix rfl rfl rfl rfl rfl (by decide) (by decide) rfl) ?_ | refine step_pure rfl (pure_ix rfl rfl rfl rfl rfl (by omega) (by omega) rfl) ?_
        first | refine step_pure rfl (pure_load (i := 0) rfl rfl rfl rfl rfl rfl) ?_ | refine step_pure rfl (pure_load (i := 1) rfl rfl rfl rfl rfl rfl) ?_ | refine step_pure rfl (pure_load (i := 2) rfl rfl rfl rfl rfl rfl) ?_ | refine step_pure rfl (pure_load (i := 3) rfl rfl rfl rfl rfl rfl) ?_ | refine step_pure rfl (pure_load (i := 4) rfl rfl rfl rfl rfl rfl) ?_ | refine step_pure rfl (pure_load (i := 5) rfl rfl rfl rfl rfl rfl) ?_
        refine step_pure rfl (pure_leq rfl rfl) ?_
        refine step_pure rfl (pure_pick_yes rfl rfl) ?_
        refine qa rfl rfl ?_
        refine step_nil ?_
        refine less_sub ⟨rfl, rfl, rfl, rfl, ?_, trivial⟩ (by repeat (first | exact List.Sublist.refl _ | exact List.nil_sublist _ | apply List.Sublist.cons_cons | apply List.Sublist.cons))
        refine congrArg some (congrArg Value.bool ?_)
        rw [Bool.eq_iff_iff]
        simp_all
        try omega
       ·refine qp rfl rfl rfl ?_
        refine qp rfl rfl rfl ?_
        refine qp rfl rfl rfl ?_
        refine qp rfl rfl rfl ?_
        refine step_pure rfl (pure_pick_no rfl rfl) ?_
        refine qa rfl rfl ?_
        refine step_nil ?_
        refine less_sub ⟨rfl, rfl, rfl, rfl, ?_, trivial⟩ (by repeat (first | exact List.Sublist.refl _ | exact List.nil_sublist _ | apply List.Sublist.cons_cons | apply List.Sublist.cons))
        refine congrArg some (congrArg Value.bool ?_)
        rw [Bool.eq_iff_iff]
        simp_all
        try omega
      ·refine qp rfl rfl rfl ?_
       refine qp rfl rfl rfl ?_
       refine qp rfl rfl rfl ?_
       refine qp rfl rfl rfl ?_
       refine step_pure rfl (pure_pick_no rfl rfl) ?_
       refine qm rfl rfl ?_
       refine qp rfl rfl rfl ?_
       refine qp rfl rfl rfl ?_
       refine qp rfl rfl rfl ?_
       refine qp rfl rfl rfl ?_
       refine step_pure rfl (pure_pick_no rfl rfl) ?_
       refine qa rfl rfl ?_
       refine step_nil ?_
       refine less_sub ⟨rfl, rfl, rfl, rfl, ?_, trivial⟩ (by repeat (first | exact List.Sublist.refl _ | exact List.nil_sublist _ | apply List.Sublist.cons_cons | apply List.Sublist.cons))
       refine congrArg some (congrArg Value.bool ?_)
       rw [Bool.eq_iff_iff]
       simp_all
       try omega
     ·refine qp rfl rfl rfl ?_
      refine qp rfl rfl rfl ?_
      refine qp rfl rfl rfl ?_
      refine qp rfl rfl rfl ?_
      refine step_pure rfl (pure_pick_no rfl rfl) ?_
      refine qm rfl rfl ?_
      refine qp rfl rfl rfl ?_
      refine qp rfl rfl rfl ?_
      refine qp rfl rfl rfl ?_
      refine qp rfl rfl rfl ?_
      refine step_pure rfl (pure_pick_no rfl rfl) ?_
      refine qm rfl rfl ?_
      refine qp rfl rfl rfl ?_
      refine qp rfl rfl rfl ?_
      refine qp rfl rfl rfl ?_
      refine qp rfl rfl rfl ?_
      refine step_pure rfl (pure_pick_no rfl rfl) ?_
      refine qa rfl rfl ?_
      refine step_nil ?_
      refine less_sub ⟨rfl, rfl, rfl, rfl, ?_, trivial⟩ (by repeat (first | exact List.Sublist.refl _ | exact List.nil_sublist _ | apply List.Sublist.cons_cons | apply List.Sublist.cons))
      refine congrArg some (congrArg Value.bool ?_)
      rw [Bool.eq_iff_iff]
      simp_all
      try omega
    ·refine qp rfl rfl rfl ?_
     refine qp rfl rfl rfl ?_
     refine qp rfl rfl rfl ?_
     refine qp rfl rfl rfl ?_
     refine step_pure rfl (pure_pick_no rfl rfl) ?_
     refine qm rfl rfl ?_
     refine qp rfl rfl rfl ?_
     refine qp rfl rfl rfl ?_
     refine qp rfl rfl rfl ?_
     refine qp rfl rfl rfl ?_
     refine step_pure rfl (pure_pick_no rfl rfl) ?_
     refine qm rfl rfl ?_
     refine qp rfl rfl rfl ?_
     refine qp rfl rfl rfl ?_
     refine qp rfl rfl rfl ?_
     refine qp rfl rfl rfl ?_
     refine step_pure rfl (pure_pick_no rfl rfl) ?_
     refine qm rfl rfl ?_
     refine qp rfl rfl rfl ?_
     refine qp rfl rfl rfl ?_
     refine qp rfl rfl rfl ?_
     refine qp rfl rfl rfl ?_
     refine step_pure rfl (pure_pick_no rfl rfl) ?_
     refine qa rfl rfl ?_
     refine step_nil ?_
     refine less_sub ⟨rfl, rfl, rfl, rfl, ?_, trivial⟩ (by repeat (first | exact List.Sublist.refl _ | exact List.nil_sublist _ | apply List.Sublist.cons_cons | apply List.Sublist.cons))
     refine congrArg some (congrArg Value.bool ?_)
     rw [Bool.eq_iff_iff]
     simp_all
     try omega
   ·refine qp rfl rfl rfl ?_
    refine qp rfl rfl rfl ?_
    refine qp rfl rfl rfl ?_
    refine qp rfl rfl rfl ?_
    refine step_pure rfl (pure_pick_no rfl rfl) ?_
    refine qm rfl rfl ?_
    refine qp rfl rfl rfl ?_
    refine qp rfl rfl rfl ?_
    refine qp rfl rfl rfl ?_
    refine qp rfl rfl rfl ?_
    refine step_pure rfl (pure_pick_no rfl rfl) ?_
    refine qm rfl rfl ?_
    refine qp rfl rfl rfl ?_
    refine qp rfl rfl rfl ?_
    refine qp rfl rfl rfl ?_
    refine qp rfl rfl rfl ?_
    refine step_pure rfl (pure_pick_no rfl rfl) ?_
    refine qm rfl rfl ?_
    refine qp rfl rfl rfl ?_
    refine qp rfl rfl rfl ?_
    refine qp rfl rfl rfl ?_
    refine qp rfl rfl rfl ?_
    refine step_pure rfl (pure_pick_no rfl rfl) ?_
    refine qm rfl rfl ?_
    refine qp rfl rfl rfl ?_
    refine qp rfl rfl rfl ?_
    refine qp rfl rfl rfl ?_
    refine qp rfl rfl rfl ?_
    refine step_pure rfl (pure_pick_no rfl rfl) ?_
    refine qa rfl rfl ?_
    refine step_nil ?_
    refine less_sub ⟨rfl, rfl, rfl, rfl, ?_, trivial⟩ (by repeat (first | exact List.Sublist.refl _ | exact List.nil_sublist _ | apply List.Sublist.cons_cons | apply List.Sublist.cons))
    refine congrArg some (congrArg Value.bool ?_)
    rw [Bool.eq_iff_iff]
    simp_all
    try omega
  have hsp : decide ((0 ≤ s.X ∧ s.X < s.W) ∧ (0 ≤ s.Y ∧ s.Y < s.H) ∧ (0 ≤ s.A ∧ s.A ≤ 2047) ∧ (0 ≤ s.top ∧ s.top ≤ s.bot ∧ s.bot < s.H) ∧ (0 ≤ s.s0 ∧ s.s0 < 64) ∧ (0 ≤ s.s1 ∧ s.s1 < 64) ∧ (0 ≤ s.s2 ∧ s.s2 ≤ 2047)) =
    (decide ((0 ≤ s.X ∧ s.X < s.W) ∧ (0 ≤ s.Y ∧ s.Y < s.H) ∧ (0 ≤ s.A ∧ s.A ≤ 2047)) && (decide (0 ≤ s.top ∧ s.top ≤ s.bot ∧ s.bot < s.H) && decide ((0 ≤ s.s0 ∧ s.s0 < 64) ∧ (0 ≤ s.s1 ∧ s.s1 < 64) ∧ (0 ≤ s.s2 ∧ s.s2 ≤ 2047)))) := by
   rw [Bool.eq_iff_iff]
   simp only [Bool.and_eq_true, decide_eq_true_eq]
   omega
  rw [hsp] at hokd
  clear hsp
  generalize decide ((0 ≤ s.X ∧ s.X < s.W) ∧ (0 ≤ s.Y ∧ s.Y < s.H) ∧ (0 ≤ s.A ∧ s.A ≤ 2047)) = d1 at *
  generalize decide (0 ≤ s.top ∧ s.top ≤ s.bot ∧ s.bot < s.H) = d2 at *
  generalize decide ((0 ≤ s.s0 ∧ s.s0 < 64) ∧ (0 ≤ s.s1 ∧ s.s1 < 64) ∧ (0 ≤ s.s2 ∧ s.s2 ≤ 2047)) = d3 at *
  repeat refine c_seq ?_
  refine c_meet [(138, .bool (!scOk s))] [] ?_ ?_
  ·rw [hokd]
   repeat refine c_seq ?_
   refine c_region ?_
   refine qm rfl rfl ?_
   refine step_pure rfl (pure_not rfl) ?_
   refine qm rfl rfl ?_
   refine step_split (t := 123) rfl (fun h123 => ?_) (fun h123 => ?_)
   ·refine qp rfl rfl rfl ?_
    refine qp rfl rfl rfl ?_
    refine step_pure rfl (pure_pick_yes rfl rfl) ?_
    refine qm rfl rfl ?_
    refine qp rfl rfl rfl ?_
    refine qp rfl rfl rfl ?_
    refine step_pure rfl (pure_pick_yes rfl rfl) ?_
    refine qm rfl rfl ?_
    refine qp rfl rfl rfl ?_
    refine qp rfl rfl rfl ?_
    refine step_pure rfl (pure_pick_yes rfl rfl) ?_
    refine qm rfl rfl ?_
    refine qp rfl rfl rfl ?_
    refine qp rfl rfl rfl ?_
    refine step_pure rfl (pure_pick_yes rfl rfl) ?_
    refine step_nil ?_
    refine less_of ⟨?_, trivial⟩ rfl
    refine congrArg some (congrArg Value.bool ?_)
    simp_all
   ·refine qm rfl rfl ?_
    refine step_pure rfl (pure_not rfl) ?_
    refine step_pure rfl (pure_pick_no rfl rfl) ?_
    refine qm rfl rfl ?_
    refine step_split (t := 127) rfl (fun h127 => ?_) (fun h127 => ?_)
    ·refine qp rfl rfl rfl ?_
     refine qp rfl rfl rfl ?_
     refine step_pure rfl (pure_pick_yes rfl rfl) ?_
     refine qm rfl rfl ?_
     refine qp rfl rfl rfl ?_
     refine qp rfl rfl rfl ?_
     refine step_pure rfl (pure_pick_yes rfl rfl) ?_
     refine qm rfl rfl ?_
     refine qp rfl rfl rfl ?_
     refine qp rfl rfl rfl ?_
     refine step_pure rfl (pure_pick_yes rfl rfl) ?_
     refine step_nil ?_
     refine less_of ⟨?_, trivial⟩ rfl
     refine congrArg some (congrArg Value.bool ?_)
     simp_all
    ·refine qm rfl rfl ?_
     refine step_pure rfl (pure_not rfl) ?_
     refine step_pure rfl (pure_pick_no rfl rfl) ?_
     refine qm rfl rfl ?_
     refine step_split (t := 131) rfl (fun h131 => ?_) (fun h131 => ?_)
     ·refine qp rfl rfl rfl ?_
      refine qp rfl rfl rfl ?_
      refine step_pure rfl (pure_pick_yes rfl rfl) ?_
      refine qm rfl rfl ?_
      refine qp rfl rfl rfl ?_
      refine qp rfl rfl rfl ?_
      refine step_pure rfl (pure_pick_yes rfl rfl) ?_
      refine step_nil ?_
      refine less_of ⟨?_, trivial⟩ rfl
      refine congrArg some (congrArg Value.bool ?_)
      simp_all
     ·refine qm rfl rfl ?_
      refine step_pure rfl (pure_not rfl) ?_
      refine step_pure rfl (pure_pick_no rfl rfl) ?_
      refine qm rfl rfl ?_
      refine step_split (t := 135) rfl (fun h135 => ?_) (fun h135 => ?_)
      ·refine qp rfl rfl rfl ?_
       refine qp rfl rfl rfl ?_
       refine step_pure rfl (pure_pick_yes rfl rfl) ?_
       refine step_nil ?_
       refine less_of ⟨?_, trivial⟩ rfl
       refine congrArg some (congrArg Value.bool ?_)
       simp_all
      ·refine qm rfl rfl ?_
       refine step_pure rfl (pure_not rfl) ?_
       refine step_pure rfl (pure_pick_no rfl rfl) ?_
       refine step_nil ?_
       refine less_of ⟨?_, trivial⟩ rfl
       refine congrArg some (congrArg Value.bool ?_)
       simp_all
  cases hok : scOk s with
  | false =>
   repeat refine c_seq ?_
   refine c_cond_yes rfl rfl ?_
   repeat refine c_seq ?_
   refine c_region ?_
   refine qa rfl rfl ?_
   refine step_nil ?_
   exact c_ret ⟨_, res_tmp Try.results38 rfl, rfl⟩
  | true =>
   repeat refine c_seq ?_
   refine c_cond_no rfl rfl ?_
   refine c_skip ?_
   repeat refine c_seq ?_
   refine c_region ?_
   refine qa rfl rfl ?_
   refine step_nil ?_
   exact c_ret ⟨_, res_tmp Try.results38 rfl, rfl⟩
end Go.Proofs.Ytbcpgdjhomoghaa
