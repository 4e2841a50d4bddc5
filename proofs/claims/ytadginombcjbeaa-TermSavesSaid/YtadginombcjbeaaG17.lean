/- Cells and screens compared: walked. -/
import Derived.Test.YtadginombcjbeaaG16
import Derived.Laws.StructEq
namespace Go.Proofs.Ytadginombcjbeaa
open Go.RowKit Go.Vc
set_option linter.unusedVariables false
set_option linter.unusedSimpArgs false
theorem guardCe : tb.P.eqGuardType tb.P.depth 48 = false := by kernel_rfl
theorem stoodCe : tb.P.stoodInHeld 48 = false := by kernel_rfl
theorem underCe : tb.P.underlying 48 = some (.struct (tb.P.fieldsOf 48)) := by kernel_rfl
theorem fieldsCe : (tb.P.fieldsOf 48).toList.map (fun f => (decide (f.name = "_"), f.type, f.offset)) = [(false, 3, 0), (false, 3, 1)] := by kernel_rfl
theorem run_eq_ce (d : Nat) (a b p q : Int) (w : World) : (Op.equalIn (d + 2) 48 (.agg [Value.int .i64 a, .int .i64 b].toArray) (.agg [Value.int .i64 p, .int .i64 q].toArray)).run tb.P w = .ok (a == p && b == q) w := by
 rw [run_equalIn_struct w (d + 1) _ _ _ underCe stoodCe]
 have hf := fieldsCe
 generalize (tb.P.fieldsOf 48).toList = fs at hf
 obtain ⟨f1, f2, rfl⟩ : ∃ f1 f2, fs = [f1, f2] := by
  have hl := congrArg List.length hf
  match fs, hl with
  | [f1, f2], _ => exact ⟨f1, f2, rfl⟩
 simp only [List.map_cons, List.map_nil, List.cons.injEq, Prod.mk.injEq, and_true, decide_eq_false_iff_not] at hf
 obtain ⟨⟨n1, t1, o1⟩, n2, t2, o2⟩ := hf
 have hi : tb.ty 3 = some ⟨.int .i64, 1, false⟩ := rfl
 simp only [Op.eqFields, n1, n2, t1, t2, o1, o2, Sem.run_bind, Sem.run_ite, run_part hi rfl (cs := [Value.int .i64 a, .int .i64 b].toArray) (off := 0) (v := .int .i64 a) rfl, run_part hi rfl (cs := [Value.int .i64 a, .int .i64 b].toArray) (off := 1) (v := .int .i64 b) rfl,
  run_part hi rfl (cs := [Value.int .i64 p, .int .i64 q].toArray) (off := 0) (v := .int .i64 p) rfl, run_part hi rfl (cs := [Value.int .i64 p, .int .i64 q].toArray) (off := 1) (v := .int .i64 q) rfl, Result.andThen_ok, run_eq_int hi rfl]
 cases a == p <;> cases b == q <;> simp [n1, n2]
theorem pure_neq_ce {E : Env} {rs : Rs} {m : Mem} {dst : Option Tmp} {ty : TypeId} {pos : String} {aft : Array Edge} {gd : Option (Nat × Bool)} {x y : Operand} {U : TypeId} {a b p q : Int}
  (hx : ev rs x = some (.agg [Value.int .i64 a, .int .i64 b].toArray)) (hy : ev rs y = some (.agg [Value.int .i64 p, .int .i64 q].toArray)) :
  Pure tb E rs m ⟨dst, .binOp .neq 48 x y U, ty, pos, aft, gd⟩ (.bool (!(a == p && b == q))) := by
 refine ⟨fun a' w hr hh hk => ?_⟩
 have key := run_eq_ce 9998 a b p q w
 simp [execOp, ev_ok hr hx, ev_ok hr hy, eqGuard, binOp, guardCe, Op.equal, Op.maxDepth, key]
theorem slc_ce {C : Addr → Value → Prop} {l : List Ce} {v : Value} (hv : SlC C 2 v l.length (ceR l)) {i : Nat} (hi : i < l.length) :
  ∃ p cap, v = .slice (some p) l.length cap ∧ ∀ j x, [Value.int .i64 (l.getD i blC).1, .int .i64 (l.getD i blC).2][j]? = some x → C ((p.add (i * 2)).add j) x := by
 obtain ⟨p, cap', he, hp⟩ := hv.at (by decide) hi
 obtain ⟨g0, g1⟩ := ceR_get l hi
 have q0 := hp 0 _ g0
 have q1 := hp 1 _ g1
 refine ⟨p, cap', he, fun j x hx => ?_⟩
 match j, hx with
 | 0, hx => cases hx; exact q0
 | 1, hx => cases hx; exact q1
theorem list_eq (l : List Ce) (v1 v2 : Value) (w : World) (h1 : SlC (At w) 2 v1 l.length (ceR l)) (h2 : SlC (At w) 2 v2 l.length (ceR l)) (hle : l.length ≤ maxLen) :
  Gives tb 22 [v1, v2] w (.bool true) := by
 have hm : maxLen ≤ 9223372036854775807 := by decide
 obtain ⟨a1, c1, rfl, _⟩ := slc_sl h1
 obtain ⟨a2, c2, rfl, _⟩ := slc_sl h2
 replace h1 : SlC (Cel ⟨w, [], []⟩) 2 (.slice a1 l.length c1) l.length (ceR l) := h1.mono fun p x h => ⟨h, by simp⟩
 replace h2 : SlC (Cel ⟨w, [], []⟩) 2 (.slice a2 l.length c2) l.length (ceR l) := h2.mono fun p x h => ⟨h, by simp⟩
 refine gives_of (fn := Try.f22) Try.func22 rfl Try.ntmps22 rfl ?_
 repeat refine c_seq ?_
 refine c_region ?_
 refine qa rfl rfl ?_
 refine step_nil ?_
 repeat refine c_seq ?_
 refine c_region ?_
 refine qm rfl rfl ?_
 refine step_pure rfl (pure_len_slice rfl rfl rfl) ?_
 refine qm rfl rfl ?_
 refine step_pure rfl (pure_len_slice rfl rfl rfl) ?_
 refine step_as rfl (pure_neq rfl rfl) (show _ = Value.bool false from congrArg Value.bool (by simp)) ?_
 refine step_nil ?_
 repeat refine c_seq ?_
 refine c_cond_no rfl rfl ?_
 refine c_skip ?_
 repeat refine c_seq ?_
 refine c_region ?_
 refine qa rfl rfl ?_
 refine step_nil ?_
 repeat refine c_seq ?_
 refine c_block ?_
 repeat refine c_seq ?_
 refine c_loop (α := Nat) (fun i => [(0, .slice a1 l.length c1), (1, .slice a2 l.length c2), (5, .int .i64 i)]) (fun _ => []) (fun i => i ≤ l.length) (fun i => l.length - i) 0 (Nat.zero_le _) (less_of ⟨rfl, rfl, rfl, trivial⟩ rfl) ?_
 intro i hi
 repeat refine c_seq ?_
 refine c_region ?_
 refine qm rfl rfl ?_
 refine qm rfl rfl ?_
 refine step_pure rfl (pure_len_slice rfl rfl rfl) ?_
 refine step_pure rfl (pure_lss rfl rfl) ?_
 refine step_nil ?_
 repeat refine c_seq ?_
 refine c_cond rfl (fun h => ?_) (fun h => ?_)
 ·have hlt : i < l.length := by have := of_decide_eq_true h; omega
  clear h
  refine c_skip ?_
  obtain ⟨p1, k1, e1, q1⟩ := slc_ce h1 hlt
  obtain ⟨p2, k2, e2, q2⟩ := slc_ce h2 hlt
  cases e1
  cases e2
  generalize l.getD i blC = c at *
  repeat refine c_seq ?_
  refine c_block ?_
  repeat refine c_seq ?_
  refine d_region [1, 9, 17, 27, 33, 41, 49, 59, 65] follows (by kernel_rfl) ?_
  refine qd rfl rfl rfl rfl ?_
  refine qd rfl rfl rfl rfl ?_
  refine d_as0 rfl rfl rfl (pure_indexAddr_at rfl rfl rfl rfl rfl (by omega) (by omega)) (show _ = Value.pointer (some (p1.add (i * 2))) from by show Value.pointer (some (p1.add ((i : Int).toNat * 2))) = _; rw [Int.toNat_natCast]) ?_
  refine d_pure1 rfl rfl rfl (pure_cel_agg (vs := [Value.int .i64 c.1, .int .i64 c.2]) rfl rfl rfl rfl q1) (by first | exact SubMem.refl _ | exact (SubMem.refl _).cons | exact (SubMem.refl _).cons.cons | exact (SubMem.refl _).cons.cons.cons | exact (SubMem.refl _).cons.cons.cons.cons | exact (fun w hh => Has.sublist (by repeat (first | exact List.Sublist.refl _ | exact List.nil_sublist _ | apply List.Sublist.cons_cons | apply List.Sublist.cons)) hh)) ?_
  refine qd rfl rfl rfl rfl ?_
  refine qd rfl rfl rfl rfl ?_
  refine d_as0 rfl rfl rfl (pure_indexAddr_at rfl rfl rfl rfl rfl (by omega) (by omega)) (show _ = Value.pointer (some (p2.add (i * 2))) from by show Value.pointer (some (p2.add ((i : Int).toNat * 2))) = _; rw [Int.toNat_natCast]) ?_
  refine d_pure1 rfl rfl rfl (pure_cel_agg (vs := [Value.int .i64 c.1, .int .i64 c.2]) rfl rfl rfl rfl q2) (by first | exact SubMem.refl _ | exact (SubMem.refl _).cons | exact (SubMem.refl _).cons.cons | exact (SubMem.refl _).cons.cons.cons | exact (SubMem.refl _).cons.cons.cons.cons | exact (fun w hh => Has.sublist (by repeat (first | exact List.Sublist.refl _ | exact List.nil_sublist _ | apply List.Sublist.cons_cons | apply List.Sublist.cons)) hh)) ?_
  refine d_as0 rfl rfl rfl (pure_neq_ce rfl rfl) (show _ = Value.bool false from congrArg Value.bool (by simp)) ?_
  refine d_nil ?_
  repeat refine c_seq ?_
  refine c_cond_no rfl rfl ?_
  refine c_skip ?_
  repeat refine c_seq ?_
  refine c_region ?_
  refine qm rfl rfl ?_
  first | refine step_pure rfl (pure_add64 rfl rfl (by omega) (by omega)) ?_ | refine step_pure rfl (pure_add rfl rfl) ?_
  refine qa rfl rfl ?_
  refine step_nil ?_
  refine ⟨i + 1, hlt, by omega, less_of ⟨rfl, rfl, rfl, trivial⟩ rfl⟩
 ·refine c_exit ?_
  repeat refine c_seq ?_
  refine c_region ?_
  refine qa rfl rfl ?_
  refine step_nil ?_
  exact c_ret ⟨_, res_tmp Try.results22 rfl, rfl⟩
set_option maxHeartbeats 2000000 in
theorem same_eq (s : Scr) (cs1 cs2 : List Value) (w : World) (h1 : ScV (At w) s cs1) (h2 : ScV (At w) s cs2) (hl1 : s.cells.length ≤ maxLen) (hl2 : s.main.length ≤ maxLen) :
  Gives tb 11 [.agg cs1.toArray, .agg cs2.toArray] w (.bool true) := by
 obtain ⟨v1, v2, rfl, hc1, hm1⟩ := h1
 obtain ⟨u1, u2, rfl, hc2, hm2⟩ := h2
 have hlc := fun w' (kp : Keep w w' []) => list_eq s.cells v1 u1 w' (hc1.mono (at_keep kp)) (hc2.mono (at_keep kp)) hl1
 have hlm := fun w' (kp : Keep w w' []) => list_eq s.main v2 u2 w' (hm1.mono (at_keep kp)) (hm2.mono (at_keep kp)) hl2
 obtain ⟨a1, c1, rfl, _⟩ := slc_sl hc1
 obtain ⟨a2, c2, rfl, _⟩ := slc_sl hc2
 obtain ⟨a3, c3, rfl, _⟩ := slc_sl hm1
 obtain ⟨a4, c4, rfl, _⟩ := slc_sl hm2
 clear hc1 hc2 hm1 hm2
 refine gives_of (fn := Try.f11) Try.func11 rfl Try.ntmps11 rfl ?_
 repeat refine c_seq ?_
 refine c_region ?_
 refine step_box_agg rfl rfl (fun b2 => ?_)
 refine step_box_agg rfl rfl (fun b3 => ?_)
 refine qa rfl rfl ?_
 refine step_nil ?_
 repeat refine c_seq ?_
 refine c_region ?_
 refine step_pure rfl (pure_fieldAddr rfl rfl rfl rfl rfl (by decide)) ?_
 first | refine step_pure rfl (pure_load (i := 0) rfl rfl rfl rfl rfl rfl) ?_ | refine step_pure rfl (pure_load (i := 1) rfl rfl rfl rfl rfl rfl) ?_ | refine step_pure rfl (pure_load (i := 2) rfl rfl rfl rfl rfl rfl) ?_ | refine step_pure rfl (pure_load (i := 3) rfl rfl rfl rfl rfl rfl) ?_ | refine step_pure rfl (pure_load (i := 4) rfl rfl rfl rfl rfl rfl) ?_ | refine step_pure rfl (pure_load (i := 5) rfl rfl rfl rfl rfl rfl) ?_
 refine step_pure rfl (pure_fieldAddr rfl rfl rfl rfl rfl (by decide)) ?_
 first | refine step_pure rfl (pure_load (i := 0) rfl rfl rfl rfl rfl rfl) ?_ | refine step_pure rfl (pure_load (i := 1) rfl rfl rfl rfl rfl rfl) ?_ | refine step_pure rfl (pure_load (i := 2) rfl rfl rfl rfl rfl rfl) ?_ | refine step_pure rfl (pure_load (i := 3) rfl rfl rfl rfl rfl rfl) ?_ | refine step_pure rfl (pure_load (i := 4) rfl rfl rfl rfl rfl rfl) ?_ | refine step_pure rfl (pure_load (i := 5) rfl rfl rfl rfl rfl rfl) ?_
 refine step_gives rfl fun22 rfl (fun w' hh kp => hlc w' kp) ?_
 refine qa rfl rfl ?_
 refine step_nil ?_
 repeat refine c_seq ?_
 refine c_region ?_
 refine step_pure rfl (pure_fieldAddr rfl rfl rfl rfl rfl (by decide)) ?_
 first | refine step_pure rfl (pure_load (i := 0) rfl rfl rfl rfl rfl rfl) ?_ | refine step_pure rfl (pure_load (i := 1) rfl rfl rfl rfl rfl rfl) ?_ | refine step_pure rfl (pure_load (i := 2) rfl rfl rfl rfl rfl rfl) ?_ | refine step_pure rfl (pure_load (i := 3) rfl rfl rfl rfl rfl rfl) ?_ | refine step_pure rfl (pure_load (i := 4) rfl rfl rfl rfl rfl rfl) ?_ | refine step_pure rfl (pure_load (i := 5) rfl rfl rfl rfl rfl rfl) ?_
 refine step_pure rfl (pure_fieldAddr rfl rfl rfl rfl rfl (by decide)) ?_
 first | refine step_pure rfl (pure_load (i := 0) rfl rfl rfl rfl rfl rfl) ?_ | refine step_pure rfl (pure_load (i := 1) rfl rfl rfl rfl rfl rfl) ?_ | refine step_pure rfl (pure_load (i := 2) rfl rfl rfl rfl rfl rfl) ?_ | refine step_pure rfl (pure_load (i := 3) rfl rfl rfl rfl rfl rfl) ?_ | refine step_pure rfl (pure_load (i := 4) rfl rfl rfl rfl rfl rfl) ?_ | refine step_pure rfl (pure_load (i := 5) rfl rfl rfl rfl rfl rfl) ?_
 refine step_gives rfl fun22 rfl (fun w' hh kp => hlm w' kp) ?_
 refine qa rfl rfl ?_
 refine step_nil ?_
 repeat refine c_seq ?_
 refine c_region ?_
 refine step_pure rfl (pure_fieldAddr rfl rfl rfl rfl rfl (by decide)) ?_
 first | refine step_pure rfl (pure_load (i := 0) rfl rfl rfl rfl rfl rfl) ?_ | refine step_pure rfl (pure_load (i := 1) rfl rfl rfl rfl rfl rfl) ?_ | refine step_pure rfl (pure_load (i := 2) rfl rfl rfl rfl rfl rfl) ?_ | refine step_pure rfl (pure_load (i := 3) rfl rfl rfl rfl rfl rfl) ?_ | refine step_pure rfl (pure_load (i := 4) rfl rfl rfl rfl rfl rfl) ?_ | refine step_pure rfl (pure_load (i := 5) rfl rfl rfl rfl rfl rfl) ?_
 refine step_pure rfl (pure_fieldAddr rfl rfl rfl rfl rfl (by decide)) ?_
 first | refine step_pure rfl (pure_load (i := 0) rfl rfl rfl rfl rfl rfl) ?_ | refine step_pure rfl (pure_load (i := 1) rfl rfl rfl rfl rfl rfl) ?_ | refine step_pure rfl (pure_load (i := 2) rfl rfl rfl rfl rfl rfl) ?_ | refine step_pure rfl (pure_load (i := 3) rfl rfl rfl rfl rfl rfl) ?_ | refine step_pure rfl (pure_load (i := 4) rfl rfl rfl rfl rfl rfl) ?_ | refine step_pure rfl (pure_load (i := 5) rfl rfl rfl rfl rfl rfl) ?_
 refine step_as rfl (pure_eql rfl rfl) (show _ = Value.bool true from congrArg Value.bool (decide_eq_true rfl)) ?_
 refine qm rfl rfl ?_
 first | refine step_pure rfl (pure_fieldAddr rfl rfl rfl rfl rfl (by decide)) ?_ | refine qp rfl rfl rfl ?_
 first | refine step_pure rfl (pure_load (i := 0) rfl rfl rfl rfl rfl rfl) ?_ | refine step_pure rfl (pure_load (i := 1) rfl rfl rfl rfl rfl rfl) ?_ | refine step_pure rfl (pure_load (i := 2) rfl rfl rfl rfl rfl rfl) ?_ | refine step_pure rfl (pure_load (i := 3) rfl rfl rfl rfl rfl rfl) ?_ | refine step_pure rfl (pure_load (i := 4) rfl rfl rfl rfl rfl rfl) ?_ | refine step_pure rfl (pure_load (i := 5) rfl rfl rfl rfl rfl rfl) ?_ | refine qp rfl rfl rfl ?_
 first | refine step_pure rfl (pure_fieldAddr rfl rfl rfl rfl rfl (by decide)) ?_ | refine qp rfl rfl rfl ?_
 first | refine step_pure rfl (pure_load (i := 0) rfl rfl rfl rfl rfl rfl) ?_ | refine step_pure rfl (pure_load (i := 1) rfl rfl rfl rfl rfl rfl) ?_ | refine step_pure rfl (pure_load (i := 2) rfl rfl rfl rfl rfl rfl) ?_ | refine step_pure rfl (pure_load (i := 3) rfl rfl rfl rfl rfl rfl) ?_ | refine step_pure rfl (pure_load (i := 4) rfl rfl rfl rfl rfl rfl) ?_ | refine step_pure rfl (pure_load (i := 5) rfl rfl rfl rfl rfl rfl) ?_ | refine qp rfl rfl rfl ?_
 first | refine step_as rfl (pure_eql rfl rfl) (show _ = Value.bool true from congrArg Value.bool (decide_eq_true rfl)) ?_ | refine qp rfl rfl rfl ?_
 first | refine step_pure rfl (pure_pick_yes rfl rfl) ?_ | refine step_pure rfl (pure_pick_no rfl rfl) ?_ | refine step_pure rfl (pure_pick_bool rfl rfl rfl) ?_
 refine qm rfl rfl ?_
 first | refine step_pure rfl (pure_fieldAddr rfl rfl rfl rfl rfl (by decide)) ?_ | refine qp rfl rfl rfl ?_
 first | refine step_pure rfl (pure_load (i := 0) rfl rfl rfl rfl rfl rfl) ?_ | refine step_pure rfl (pure_load (i := 1) rfl rfl rfl rfl rfl rfl) ?_ | refine step_pure rfl (pure_load (i := 2) rfl rfl rfl rfl rfl rfl) ?_ | refine step_pure rfl (pure_load (i := 3) rfl rfl rfl rfl rfl rfl) ?_ | refine step_pure rfl (pure_load (i := 4) rfl rfl rfl rfl rfl rfl) ?_ | refine step_pure rfl (pure_load (i := 5) rfl rfl rfl rfl rfl rfl) ?_ | refine qp rfl rfl rfl ?_
 first | refine step_pure rfl (pure_fieldAddr rfl rfl rfl rfl rfl (by decide)) ?_ | refine qp rfl rfl rfl ?_
 first | refine step_pure rfl (pure_load (i := 0) rfl rfl rfl rfl rfl rfl) ?_ | refine step_pure rfl (pure_load (i := 1) rfl rfl rfl rfl rfl rfl) ?_ | refine step_pure rfl (pure_load (i := 2) rfl rfl rfl rfl rfl rfl) ?_ | refine step_pure rfl (pure_load (i := 3) rfl rfl rfl rfl rfl rfl) ?_ | refine step_pure rfl (pure_load (i := 4) rfl rfl rfl rfl rfl rfl) ?_ | refine step_pure rfl (pure_load (i := 5) rfl rfl rfl rfl rfl rfl) ?_ | refine qp rfl rfl rfl ?_
 first | refine step_as rfl (pure_eql rfl rfl) (show _ = Value.bool true from congrArg Value.bool (decide_eq_true rfl)) ?_ | refine qp rfl rfl rfl ?_
 first | refine step_pure rfl (pure_pick_yes rfl rfl) ?_ | refine step_pure rfl (pure_pick_no rfl rfl) ?_ | refine step_pure rfl (pure_pick_bool rfl rfl rfl) ?_
 refine qm rfl rfl ?_
 first | refine step_pure rfl (pure_fieldAddr rfl rfl rfl rfl rfl (by decide)) ?_ | refine qp rfl rfl rfl ?_
 first | refine step_pure rfl (pure_load (i := 0) rfl rfl rfl rfl rfl rfl) ?_ | refine step_pure rfl (pure_load (i := 1) rfl rfl rfl rfl rfl rfl) ?_ | refine step_pure rfl (pure_load (i := 2) rfl rfl rfl rfl rfl rfl) ?_ | refine step_pure rfl (pure_load (i := 3) rfl rfl rfl rfl rfl rfl) ?_ | refine step_pure rfl (pure_load (i := 4) rfl rfl rfl rfl rfl rfl) ?_ | refine step_pure rfl (pure_load (i := 5) rfl rfl rfl rfl rfl rfl) ?_ | refine qp rfl rfl rfl ?_
 first | refine step_pure rfl (pure_fieldAddr rfl rfl rfl rfl rfl (by decide)) ?_ | refine qp rfl rfl rfl ?_
 first | refine step_pure rfl (pure_load (i := 0) rfl rfl rfl rfl rfl rfl) ?_ | refine step_pure rfl (pure_load (i := 1) rfl rfl rfl rfl rfl rfl) ?_ | refine step_pure rfl (pure_load (i := 2) rfl rfl rfl rfl rfl rfl) ?_ | refine step_pure rfl (pure_load (i := 3) rfl rfl rfl rfl rfl rfl) ?_ | refine step_pure rfl (pure_load (i := 4) rfl rfl rfl rfl rfl rfl) ?_ | refine step_pure rfl (pure_load (i := 5) rfl rfl rfl rfl rfl rfl) ?_ | refine qp rfl rfl rfl ?_
 first | refine step_as rfl (pure_eql rfl rfl) (show _ = Value.bool true from congrArg Value.bool (decide_eq_true rfl)) ?_ | refine qp rfl rfl rfl ?_
 first | refine step_pure rfl (pure_pick_yes rfl rfl) ?_ | refine step_pure rfl (pure_pick_no rfl rfl) ?_ | refine step_pure rfl (pure_pick_bool rfl rfl rfl) ?_
 refine qm rfl rfl ?_
 first | refine step_pure rfl (pure_fieldAddr rfl rfl rfl rfl rfl (by decide)) ?_ | refine qp rfl rfl rfl ?_
 first | refine step_pure rfl (pure_load (i := 0) rfl rfl rfl rfl rfl rfl) ?_ | refine step_pure rfl (pure_load (i := 1) rfl rfl rfl rfl rfl rfl) ?_ | refine step_pure rfl (pure_load (i := 2) rfl rfl rfl rfl rfl rfl) ?_ | refine step_pure rfl (pure_load (i := 3) rfl rfl rfl rfl rfl rfl) ?_ | refine step_pure rfl (pure_load (i := 4) rfl rfl rfl rfl rfl rfl) ?_ | refine step_pure rfl (pure_load (i := 5) rfl rfl rfl rfl rfl rfl) ?_ | refine qp rfl rfl rfl ?_
 first | refine step_pure rfl (pure_fieldAddr rfl rfl rfl rfl rfl (by decide)) ?_ | refine qp rfl rfl rfl ?_
 first | refine step_pure rfl (pure_load (i := 0) rfl rfl rfl rfl rfl rfl) ?_ | refine step_pure rfl (pure_load (i := 1) rfl rfl rfl rfl rfl rfl) ?_ | refine step_pure rfl (pure_load (i := 2) rfl rfl rfl rfl rfl rfl) ?_ | refine step_pure rfl (pure_load (i := 3) rfl rfl rfl rfl rfl rfl) ?_ | refine step_pure rfl (pure_load (i := 4) rfl rfl rfl rfl rfl rfl) ?_ | refine step_pure rfl (pure_load (i := 5) rfl rfl rfl rfl rfl rfl) ?_ | refine qp rfl rfl rfl ?_
 first | refine step_as rfl (pure_eql rfl rfl) (show _ = Value.bool true from congrArg Value.bool (decide_eq_true rfl)) ?_ | refine qp rfl rfl rfl ?_
 first | refine step_pure rfl (pure_pick_yes rfl rfl) ?_ | refine step_pure rfl (pure_pick_no rfl rfl) ?_ | refine step_pure rfl (pure_pick_bool rfl rfl rfl) ?_
 refine qm rfl rfl ?_
 first | refine step_pure rfl (pure_fieldAddr rfl rfl rfl rfl rfl (by decide)) ?_ | refine qp rfl rfl rfl ?_
 first | refine step_pure rfl (pure_load (i := 0) rfl rfl rfl rfl rfl rfl) ?_ | refine step_pure rfl (pure_load (i := 1) rfl rfl rfl rfl rfl rfl) ?_ | refine step_pure rfl (pure_load (i := 2) rfl rfl rfl rfl rfl rfl) ?_ | refine step_pure rfl (pure_load (i := 3) rfl rfl rfl rfl rfl rfl) ?_ | refine step_pure rfl (pure_load (i := 4) rfl rfl rfl rfl rfl rfl) ?_ | refine step_pure rfl (pure_load (i := 5) rfl rfl rfl rfl rfl rfl) ?_ | refine qp rfl rfl rfl ?_
 first | refine step_pure rfl (pure_fieldAddr rfl rfl rfl rfl rfl (by decide)) ?_ | refine qp rfl rfl rfl ?_
 first | refine step_pure rfl (pure_load (i := 0) rfl rfl rfl rfl rfl rfl) ?_ | refine step_pure rfl (pure_load (i := 1) rfl rfl rfl rfl rfl rfl) ?_ | refine step_pure rfl (pure_load (i := 2) rfl rfl rfl rfl rfl rfl) ?_ | refine step_pure rfl (pure_load (i := 3) rfl rfl rfl rfl rfl rfl) ?_ | refine step_pure rfl (pure_load (i := 4) rfl rfl rfl rfl rfl rfl) ?_ | refine step_pure rfl (pure_load (i := 5) rfl rfl rfl rfl rfl rfl) ?_ | refine qp rfl rfl rfl ?_
 first | refine step_as rfl (pure_eql rfl rfl) (show _ = Value.bool true from congrArg Value.bool (decide_eq_true rfl)) ?_ | refine qp rfl rfl rfl ?_
 first | refine step_pure rfl (pure_pick_yes rfl rfl) ?_ | refine step_pure rfl (pure_pick_no rfl rfl) ?_ | refine step_pure rfl (pure_pick_bool rfl rfl rfl) ?_
 refine qm rfl rfl ?_
 first | refine step_pure rfl (pure_fieldAddr rfl rfl rfl rfl rfl (by decide)) ?_ | refine qp rfl rfl rfl ?_
 first | refine step_pure rfl (pure_load (i := 0) rfl rfl rfl rfl rfl rfl) ?_ | refine step_pure rfl (pure_load (i := 1) rfl rfl rfl rfl rfl rfl) ?_ | refine step_pure rfl (pure_load (i := 2) rfl rfl rfl rfl rfl rfl) ?_ | refine step_pure rfl (pure_load (i := 3) rfl rfl rfl rfl rfl rfl) ?_ | refine step_pure rfl (pure_load (i := 4) rfl rfl rfl rfl rfl rfl) ?_ | refine step_pure rfl (pure_load (i := 5) rfl rfl rfl rfl rfl rfl) ?_ | refine qp rfl rfl rfl ?_
 first | refine step_pure rfl (pure_fieldAddr rfl rfl rfl rfl rfl (by decide)) ?_ | refine qp rfl rfl rfl ?_
 first | refine step_pure rfl (pure_load (i := 0) rfl rfl rfl rfl rfl rfl) ?_ | refine step_pure rfl (pure_load (i := 1) rfl rfl rfl rfl rfl rfl) ?_ | refine step_pure rfl (pure_load (i := 2) rfl rfl rfl rfl rfl rfl) ?_ | refine step_pure rfl (pure_load (i := 3) rfl rfl rfl rfl rfl rfl) ?_ | refine step_pure rfl (pure_load (i := 4) rfl rfl rfl rfl rfl rfl) ?_ | refine step_pure rfl (pure_load (i := 5) rfl rfl rfl rfl rfl rfl) ?_ | refine qp rfl rfl rfl ?_
 first | refine step_as rfl (pure_eql rfl rfl) (show _ = Value.bool true from congrArg Value.bool (decide_eq_true rfl)) ?_ | refine qp rfl rfl rfl ?_
 first | refine step_pure rfl (pure_pick_yes rfl rfl) ?_ | refine step_pure rfl (pure_pick_no rfl rfl) ?_ | refine step_pure rfl (pure_pick_bool rfl rfl rfl) ?_
 refine qa rfl rfl ?_
 refine step_nil ?_
 repeat refine c_seq ?_
 refine c_region ?_
 refine qm rfl rfl ?_
 refine qm rfl rfl ?_
 first | refine qm rfl rfl ?_ | refine qp rfl rfl rfl ?_
 first | refine step_pure rfl (pure_pick_yes rfl rfl) ?_ | refine step_pure rfl (pure_pick_no rfl rfl) ?_ | refine step_pure rfl (pure_pick_bool rfl rfl rfl) ?_
 refine qm rfl rfl ?_
 first | refine qm rfl rfl ?_ | refine qp rfl rfl rfl ?_
 first | refine step_pure rfl (pure_pick_yes rfl rfl) ?_ | refine step_pure rfl (pure_pick_no rfl rfl) ?_ | refine step_pure rfl (pure_pick_bool rfl rfl rfl) ?_
 refine qm rfl rfl ?_
 first | refine step_pure rfl (pure_fieldAddr rfl rfl rfl rfl rfl (by decide)) ?_ | refine qp rfl rfl rfl ?_
 first | refine step_pure rfl (pure_load (i := 0) rfl rfl rfl rfl rfl rfl) ?_ | refine step_pure rfl (pure_load (i := 1) rfl rfl rfl rfl rfl rfl) ?_ | refine step_pure rfl (pure_load (i := 2) rfl rfl rfl rfl rfl rfl) ?_ | refine step_pure rfl (pure_load (i := 3) rfl rfl rfl rfl rfl rfl) ?_ | refine step_pure rfl (pure_load (i := 4) rfl rfl rfl rfl rfl rfl) ?_ | refine step_pure rfl (pure_load (i := 5) rfl rfl rfl rfl rfl rfl) ?_ | refine qp rfl rfl rfl ?_
 first | refine step_pure rfl (pure_fieldAddr rfl rfl rfl rfl rfl (by decide)) ?_ | refine qp rfl rfl rfl ?_
 first | refine step_pure rfl (pure_load (i := 0) rfl rfl rfl rfl rfl rfl) ?_ | refine step_pure rfl (pure_load (i := 1) rfl rfl rfl rfl rfl rfl) ?_ | refine step_pure rfl (pure_load (i := 2) rfl rfl rfl rfl rfl rfl) ?_ | refine step_pure rfl (pure_load (i := 3) rfl rfl rfl rfl rfl rfl) ?_ | refine step_pure rfl (pure_load (i := 4) rfl rfl rfl rfl rfl rfl) ?_ | refine step_pure rfl (pure_load (i := 5) rfl rfl rfl rfl rfl rfl) ?_ | refine qp rfl rfl rfl ?_
 first | refine step_as rfl (pure_beql rfl rfl rfl rfl) (show _ = Value.bool true from congrArg Value.bool (by simp)) ?_ | refine qp rfl rfl rfl ?_
 first | refine step_pure rfl (pure_pick_yes rfl rfl) ?_ | refine step_pure rfl (pure_pick_no rfl rfl) ?_ | refine step_pure rfl (pure_pick_bool rfl rfl rfl) ?_
 refine qm rfl rfl ?_
 first | refine step_pure rfl (pure_fieldAddr rfl rfl rfl rfl rfl (by decide)) ?_ | refine qp rfl rfl rfl ?_
 first | refine step_pure rfl (pure_load (i := 0) rfl rfl rfl rfl rfl rfl) ?_ | refine step_pure rfl (pure_load (i := 1) rfl rfl rfl rfl rfl rfl) ?_ | refine step_pure rfl (pure_load (i := 2) rfl rfl rfl rfl rfl rfl) ?_ | refine step_pure rfl (pure_load (i := 3) rfl rfl rfl rfl rfl rfl) ?_ | refine step_pure rfl (pure_load (i := 4) rfl rfl rfl rfl rfl rfl) ?_ | refine step_pure rfl (pure_load (i := 5) rfl rfl rfl rfl rfl rfl) ?_ | refine qp rfl rfl rfl ?_
 first | refine step_pure rfl (pure_fieldAddr rfl rfl rfl rfl rfl (by decide)) ?_ | refine qp rfl rfl rfl ?_
 first | refine step_pure rfl (pure_load (i := 0) rfl rfl rfl rfl rfl rfl) ?_ | refine step_pure rfl (pure_load (i := 1) rfl rfl rfl rfl rfl rfl) ?_ | refine step_pure rfl (pure_load (i := 2) rfl rfl rfl rfl rfl rfl) ?_ | refine step_pure rfl (pure_load (i := 3) rfl rfl rfl rfl rfl rfl) ?_ | refine step_pure rfl (pure_load (i := 4) rfl rfl rfl rfl rfl rfl) ?_ | refine step_pure rfl (pure_load (i := 5) rfl rfl rfl rfl rfl rfl) ?_ | refine qp rfl rfl rfl ?_
 first | refine step_as rfl (pure_beql rfl rfl rfl rfl) (show _ = Value.bool true from congrArg Value.bool (by simp)) ?_ | refine qp rfl rfl rfl ?_
 first | refine step_pure rfl (pure_pick_yes rfl rfl) ?_ | refine step_pure rfl (pure_pick_no rfl rfl) ?_ | refine step_pure rfl (pure_pick_bool rfl rfl rfl) ?_
 refine qm rfl rfl ?_
 first | refine step_pure rfl (pure_fieldAddr rfl rfl rfl rfl rfl (by decide)) ?_ | refine qp rfl rfl rfl ?_
 first | refine step_pure rfl (pure_load (i := 0) rfl rfl rfl rfl rfl rfl) ?_ | refine step_pure rfl (pure_load (i := 1) rfl rfl rfl rfl rfl rfl) ?_ | refine step_pure rfl (pure_load (i := 2) rfl rfl rfl rfl rfl rfl) ?_ | refine step_pure rfl (pure_load (i := 3) rfl rfl rfl rfl rfl rfl) ?_ | refine step_pure rfl (pure_load (i := 4) rfl rfl rfl rfl rfl rfl) ?_ | refine step_pure rfl (pure_load (i := 5) rfl rfl rfl rfl rfl rfl) ?_ | refine qp rfl rfl rfl ?_
 first | refine step_pure rfl (pure_fieldAddr rfl rfl rfl rfl rfl (by decide)) ?_ | refine qp rfl rfl rfl ?_
 first | refine step_pure rfl (pure_load (i := 0) rfl rfl rfl rfl rfl rfl) ?_ | refine step_pure rfl (pure_load (i := 1) rfl rfl rfl rfl rfl rfl) ?_ | refine step_pure rfl (pure_load (i := 2) rfl rfl rfl rfl rfl rfl) ?_ | refine step_pure rfl (pure_load (i := 3) rfl rfl rfl rfl rfl rfl) ?_ | refine step_pure rfl (pure_load (i := 4) rfl rfl rfl rfl rfl rfl) ?_ | refine step_pure rfl (pure_load (i := 5) rfl rfl rfl rfl rfl rfl) ?_ | refine qp rfl rfl rfl ?_
 first | refine step_as rfl (pure_beql rfl rfl rfl rfl) (show _ = Value.bool true from congrArg Value.bool (by simp)) ?_ | refine qp rfl rfl rfl ?_
 first | refine step_pure rfl (pure_pick_yes rfl rfl) ?_ | refine step_pure rfl (pure_pick_no rfl rfl) ?_ | refine step_pure rfl (pure_pick_bool rfl rfl rfl) ?_
 refine qm rfl rfl ?_
 first | refine step_pure rfl (pure_fieldAddr rfl rfl rfl rfl rfl (by decide)) ?_ | refine qp rfl rfl rfl ?_
 first | refine step_pure rfl (pure_load (i := 0) rfl rfl rfl rfl rfl rfl) ?_ | refine step_pure rfl (pure_load (i := 1) rfl rfl rfl rfl rfl rfl) ?_ | refine step_pure rfl (pure_load (i := 2) rfl rfl rfl rfl rfl rfl) ?_ | refine step_pure rfl (pure_load (i := 3) rfl rfl rfl rfl rfl rfl) ?_ | refine step_pure rfl (pure_load (i := 4) rfl rfl rfl rfl rfl rfl) ?_ | refine step_pure rfl (pure_load (i := 5) rfl rfl rfl rfl rfl rfl) ?_ | refine qp rfl rfl rfl ?_
 first | refine step_pure rfl (pure_fieldAddr rfl rfl rfl rfl rfl (by decide)) ?_ | refine qp rfl rfl rfl ?_
 first | refine step_pure rfl (pure_load (i := 0) rfl rfl rfl rfl rfl rfl) ?_ | refine step_pure rfl (pure_load (i := 1) rfl rfl rfl rfl rfl rfl) ?_ | refine step_pure rfl (pure_load (i := 2) rfl rfl rfl rfl rfl rfl) ?_ | refine step_pure rfl (pure_load (i := 3) rfl rfl rfl rfl rfl rfl) ?_ | refine step_pure rfl (pure_load (i := 4) rfl rfl rfl rfl rfl rfl) ?_ | refine step_pure rfl (pure_load (i := 5) rfl rfl rfl rfl rfl rfl) ?_ | refine qp rfl rfl rfl ?_
 first | refine step_as rfl (pure_beql rfl rfl rfl rfl) (show _ = Value.bool true from congrArg Value.bool (by simp)) ?_ | refine qp rfl rfl rfl ?_
 first | refine step_pure rfl (pure_pick_yes rfl rfl) ?_ | refine step_pure rfl (pure_pick_no rfl rfl) ?_ | refine step_pure rfl (pure_pick_bool rfl rfl rfl) ?_
 refine qm rfl rfl ?_
 first | refine step_pure rfl (pure_fieldAddr rfl rfl rfl rfl rfl (by decide)) ?_ | refine qp rfl rfl rfl ?_
 first | refine step_pure rfl (pure_load_agg (i := 0) rfl rfl rfl rfl rfl (by first | decide | exact Nat.le_of_ble_eq_true rfl) rfl) ?_ | refine step_pure rfl (pure_load_agg (i := 1) rfl rfl rfl rfl rfl (by first | decide | exact Nat.le_of_ble_eq_true rfl) rfl) ?_ | refine step_pure rfl (pure_load_agg (i := 2) rfl rfl rfl rfl rfl (by first | decide | exact Nat.le_of_ble_eq_true rfl) rfl) ?_ | refine step_pure rfl (pure_load_agg (i := 3) rfl rfl rfl rfl rfl (by first | decide | exact Nat.le_of_ble_eq_true rfl) rfl) ?_ | refine step_pure rfl (pure_load_agg (i := 4) rfl rfl rfl rfl rfl (by first | decide | exact Nat.le_of_ble_eq_true rfl) rfl) ?_ | refine step_pure rfl (pure_load_agg (i := 5) rfl rfl rfl rfl rfl (by first | decide | exact Nat.le_of_ble_eq_true rfl) rfl) ?_ | refine qp rfl rfl rfl ?_
 first | refine step_pure rfl (pure_fieldAddr rfl rfl rfl rfl rfl (by decide)) ?_ | refine qp rfl rfl rfl ?_
 first | refine step_pure rfl (pure_load_agg (i := 0) rfl rfl rfl rfl rfl (by first | decide | exact Nat.le_of_ble_eq_true rfl) rfl) ?_ | refine step_pure rfl (pure_load_agg (i := 1) rfl rfl rfl rfl rfl (by first | decide | exact Nat.le_of_ble_eq_true rfl) rfl) ?_ | refine step_pure rfl (pure_load_agg (i := 2) rfl rfl rfl rfl rfl (by first | decide | exact Nat.le_of_ble_eq_true rfl) rfl) ?_ | refine step_pure rfl (pure_load_agg (i := 3) rfl rfl rfl rfl rfl (by first | decide | exact Nat.le_of_ble_eq_true rfl) rfl) ?_ | refine step_pure rfl (pure_load_agg (i := 4) rfl rfl rfl rfl rfl (by first | decide | exact Nat.le_of_ble_eq_true rfl) rfl) ?_ | refine step_pure rfl (pure_load_agg (i := 5) rfl rfl rfl rfl rfl (by first | decide | exact Nat.le_of_ble_eq_true rfl) rfl) ?_ | refine qp rfl rfl rfl ?_
 first | refine step_as rfl (pure_eql_arr (l := [s.s0, s.s1, s.s2]) (r := [s.s0, s.s1, s.s2]) rfl rfl (by kernel_rfl) rfl rfl rfl rfl rfl rfl rfl rfl) (show _ = Value.bool true from congrArg Value.bool (decide_eq_true rfl)) ?_ | refine qp rfl rfl rfl ?_
 first | refine step_pure rfl (pure_pick_yes rfl rfl) ?_ | refine step_pure rfl (pure_pick_no rfl rfl) ?_ | refine step_pure rfl (pure_pick_bool rfl rfl rfl) ?_
 refine qa rfl rfl ?_
 refine step_nil ?_
 exact c_ret ⟨_, res_tmp Try.results11 rfl, rfl⟩
def few (s : Scr) : Bool := decide (s.cells.length ≤ 5000) && decide (s.main.length ≤ 5000)
end Go.Proofs.Ytadginombcjbeaa
