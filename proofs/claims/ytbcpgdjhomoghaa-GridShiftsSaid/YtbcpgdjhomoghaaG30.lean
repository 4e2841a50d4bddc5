/- The document's cells of another size: walked. -/
import Derived.Test.YtbcpgdjhomoghaaG27
import Derived.Test.YtbcpgdjhomoghaaG29
namespace Go.Proofs.Ytbcpgdjhomoghaa
open Go.RowKit Go.Vc
set_option linter.unusedVariables false
def OcR (l : List Ce) (u : Value) (m1 : Mem) (C : Addr → Value → Prop) : Prop := ∃ base cap e, u = .slice base l.length cap ∧ m1 = [e] ∧ SlIs uC tC e base l.length cap (ceR l)
theorem ocR_mono {l : List Ce} : ∀ v m1 (C C' : Addr → Value → Prop), (∀ p x, C p x → C' p x) → OcR l v m1 C → OcR l v m1 C' := fun _ _ _ _ _ h => h
structure SzS where
 i : Nat
 base : Option Addr
 cap : Nat
 e : Ent
theorem take_cell {l : List Ce} {i : Nat} (h : i < l.length) : l.take (i + 1) = l.take i ++ [l.getD i blC] := by
 rw [List.take_add_one, List.getElem?_eq_getElem h, List.getD_eq_getElem?_getD, List.getElem?_eq_getElem h]
 rfl
set_option maxHeartbeats 2000000 in
theorem rsized_W (l : List Ce) (v : Value) (was had W H : Nat) (w : World) {Z : Nat → Prop} (hZ : ∀ j, w.heap.size ≤ j → Z j) (hv : SlC (At w) 2 v (was * had) (ceR l)) (hl : l.length = was * had)
  (h1 : 1 ≤ was ∧ was ≤ 64) (h2 : 1 ≤ had ∧ had ≤ 64) (h3 : 1 ≤ W ∧ W ≤ 64) (h4 : 1 ≤ H ∧ H ≤ 64) :
  Wm tb 40 [v, .int .i64 was, .int .i64 had, .int .i64 W, .int .i64 H] w Z [] (OcR (sizedL l was had W H)) := by
 rw [← hl] at hv
 obtain ⟨a1, c1, rfl, hcap⟩ := slc_sl hv
 have hb1 : was * had ≤ 64 * 64 := Nat.mul_le_mul h1.2 h2.2
 have hb2 : W * H ≤ 64 * 64 := Nat.mul_le_mul h3.2 h4.2
 have hwh : IntKind.i64.wrap ((W : Int) * (H : Int)) = ((W * H : Nat) : Int) := by rw [mulN]; exact wrap_i64 (by omega) (by omega)
 have hTl := sizedL_len l was had W H
 have hTg := sizedL_get l was had W H
 have hC0 : ∀ p x, At w p x → Cz (fun _ => True) ⟨w, [], []⟩ p x := fun p x h => ⟨⟨h, by simp⟩, trivial⟩
 replace hv := hv.mono hC0
 clear hC0
 refine wm_of (fn := Try.f40) Try.func40 rfl Try.ntmps40 rfl trivial hZ (by intro b hb; cases hb) ocR_mono (fun on => ?_)
 generalize sizedL l was had W H = T at *
 repeat refine s_seqs ?_
 refine s_reg ?_
 refine qa rfl rfl ?_
 refine Vc.step_end (fun a w ok => ?_)
 first | (refine WPs.run ?_ a w ok; clear ok w a) | skip
 repeat refine s_seqs ?_
 refine s_reg ?_
 refine qa rfl rfl ?_
 refine Vc.step_end (fun a w ok => ?_)
 first | (refine WPs.run ?_ a w ok; clear ok w a) | skip
 repeat refine s_seqs ?_
 refine s_reg ?_
 refine qa rfl rfl ?_
 refine step_hole ?_
 refine Vc.step_end (fun a w ok => ?_)
 first | (refine WPs.run ?_ a w ok; clear ok w a) | skip
 repeat refine s_seqs ?_
 refine s_block ?_
 repeat refine s_seqs ?_
 refine s_loopP (α := SzS) (fun y => [(0, .slice a1 l.length c1), (1, .int .i64 was), (2, .int .i64 had), (3, .int .i64 W), (4, .int .i64 H), (11, .slice y.base y.i y.cap), (12, .int .i64 y.i)]) (fun y => [y.e])
  (fun y _ => y.i ≤ W * H ∧ SlIs uC tC y.e y.base y.i y.cap (ceR (T.take y.i))) (fun y => W * H - y.i) ⟨0, none, 0, hole⟩ ⟨Nat.zero_le _, sl_nil _ _ (by decide)⟩ (less_of ⟨rfl, rfl, rfl, rfl, rfl, rfl, rfl, trivial⟩ rfl) ?_
 rintro ⟨i, base, cap, e⟩ E1 ⟨hi, hse⟩ g
 replace on := on.next g
 replace hv := hv.mono g.cz
 clear g
 dsimp only at hi hse ⊢
 repeat refine s_seqs ?_
 refine s_reg ?_
 refine qm rfl rfl ?_
 refine qm rfl rfl ?_
 refine qm rfl rfl ?_
 refine step_as rfl (pure_mul rfl rfl) (congrArg (Value.int .i64) hwh) ?_
 refine step_pure rfl (pure_lss rfl rfl) ?_
 refine Vc.step_end (fun a w ok => ?_)
 first | (refine WPs.run ?_ a w ok; clear ok w a) | skip
 repeat refine s_seqs ?_
 refine s_cond rfl (fun h => ?_) (fun h => ?_)
 ·have hlt : i < W * H := by have := of_decide_eq_true h; omega
  clear h
  refine s_skip fun a w ok => WPs.run ?_ a w ok
  clear ok w a
  have hTi := hTg i hlt
  have hdi : i / W ≤ i := Nat.div_le_self ..
  have hmi : i % W < W := Nat.mod_lt _ (by omega)
  have hqi : (i : Int) / (W : Int) = ((i / W : Nat) : Int) := (Int.natCast_ediv ..).symm
  have hri : (i : Int) % (W : Int) = ((i % W : Nat) : Int) := (Int.natCast_emod ..).symm
  have htk := take_cell (l := T) (i := i) (by omega)
  repeat refine s_seqs ?_
  refine s_block ?_
  repeat refine s_seqs ?_
  refine s_reg ?_
  refine step_pure rfl (pure_build_struct (pl := [(0, 1), (1, 1)]) rfl zero33 rfl rfl rfl rfl) ?_
  refine step_alloc rfl zero33 (fun b13 => ?_)
  first | refine step_store_agg 0 rfl rfl rfl (by decide) rfl rfl rfl rfl (by decide) rfl ?_ | refine step_store_agg 1 rfl rfl rfl (by decide) rfl rfl rfl rfl (by decide) rfl ?_ | refine step_store_agg 2 rfl rfl rfl (by decide) rfl rfl rfl rfl (by decide) rfl ?_ | refine step_store_agg 3 rfl rfl rfl (by decide) rfl rfl rfl rfl (by decide) rfl ?_ | refine step_store_agg 4 rfl rfl rfl (by decide) rfl rfl rfl rfl (by decide) rfl ?_ | refine step_store_agg 5 rfl rfl rfl (by decide) rfl rfl rfl rfl (by decide) rfl ?_ | refine step_store_agg 0 rfl rfl rfl (of_one rfl) rfl rfl rfl rfl (Nat.le_of_ble_eq_true rfl) rfl ?_ | refine step_store_agg 1 rfl rfl rfl (of_one rfl) rfl rfl rfl rfl (Nat.le_of_ble_eq_true rfl) rfl ?_ | refine step_store_agg 2 rfl rfl rfl (of_one rfl) rfl rfl rfl rfl (Nat.le_of_ble_eq_true rfl) rfl ?_ | refine step_store_agg 3 rfl rfl rfl (of_one rfl) rfl rfl rfl rfl (Nat.le_of_ble_eq_true rfl) rfl ?_ | refine step_store_agg 4 rfl rfl rfl (of_one rfl) rfl rfl rfl rfl (Nat.le_of_ble_eq_true rfl) rfl ?_ | refine step_store_agg 5 rfl rfl rfl (of_one rfl) rfl rfl rfl rfl (Nat.le_of_ble_eq_true rfl) rfl ?_
  refine Vc.step_end (fun a w ok => ?_)
  first | (refine WPs.run ?_ a w ok; clear ok w a) | skip
  repeat refine s_seqs ?_
  refine s_meet [(0, .slice a1 l.length c1), (1, .int .i64 was), (2, .int .i64 had), (3, .int .i64 W), (4, .int .i64 H), (11, .slice base i cap), (12, .int .i64 i), (13, .pointer (some ⟨b13, 0, none⟩)), (33, .bool (decide (i % W < was ∧ i / W < had)))] [⟨b13, [.int .i64 32, .int .i64 0], tC⟩, e] ?_ (fun a w ok => WPs.run ?_ a w ok)
  ·clear hTi hTg htk hse hv
   generalize i % W = r at *
   generalize i / W = d at *
   repeat refine c_seq ?_
   refine c_region ?_
   refine qm rfl rfl ?_
   refine qm rfl rfl ?_
   refine step_as rfl (pure_rem_pos rfl rfl (by omega) (by omega)) (congrArg (Value.int .i64) hri) ?_
   refine qm rfl rfl ?_
   refine step_pure rfl (pure_lss rfl rfl) ?_
   refine qm rfl rfl ?_
   refine step_split (t := 27) rfl (fun h27 => ?_) (fun h27 => ?_)
   ·refine qm rfl rfl ?_
    refine qm rfl rfl ?_
    refine step_as rfl (pure_quo_pos rfl rfl (by omega) (by omega) (by omega)) (congrArg (Value.int .i64) hqi) ?_
    refine qm rfl rfl ?_
    refine step_pure rfl (pure_lss rfl rfl) ?_
    refine step_pure rfl (pure_pick_yes rfl rfl) ?_
    refine step_nil ?_
    refine less_of ⟨rfl, rfl, rfl, rfl, rfl, rfl, rfl, rfl, ?_, trivial⟩ rfl
    refine congrArg some (congrArg Value.bool ?_)
    clear hri hqi
    rw [Bool.eq_iff_iff]
    simp_all
    try omega
   ·refine qp rfl rfl rfl ?_
    refine qp rfl rfl rfl ?_
    refine qp rfl rfl rfl ?_
    refine qp rfl rfl rfl ?_
    refine qp rfl rfl rfl ?_
    refine step_pure rfl (pure_pick_no rfl rfl) ?_
    refine step_nil ?_
    refine less_of ⟨rfl, rfl, rfl, rfl, rfl, rfl, rfl, rfl, ?_, trivial⟩ rfl
    refine congrArg some (congrArg Value.bool ?_)
    clear hri hqi
    rw [Bool.eq_iff_iff]
    simp_all
    try omega
  repeat refine s_seqs ?_
  refine s_meet [(0, .slice a1 l.length c1), (1, .int .i64 was), (2, .int .i64 had), (3, .int .i64 W), (4, .int .i64 H), (11, .slice base i cap), (12, .int .i64 i), (13, .pointer (some ⟨b13, 0, none⟩))] [⟨b13, [.int .i64 (T.getD i blC).1, .int .i64 (T.getD i blC).2], tC⟩, e] ?_ (fun a w ok => WPs.run ?_ a w ok)
  ·by_cases hf : i % W < was ∧ i / W < had
   ·rw [hTi, if_pos hf]
    have hmw : (i / W + 1) * was ≤ was * had := by rw [Nat.mul_comm was had]; exact Nat.mul_le_mul_right _ (by omega)
    rw [Nat.add_mul, Nat.one_mul] at hmw
    obtain ⟨p, k, e1, q1⟩ := slc_ce hv (show i / W * was + i % W < l.length by omega)
    cases e1
    generalize l.getD (i / W * was + i % W) blC = c at *
    have hmq : IntKind.i64.wrap (((i / W : Nat) : Int) * (was : Int)) = ((i / W * was : Nat) : Int) := by rw [mulN]; exact wrap_i64 (by omega) (by omega)
    generalize i / W * was = dw at *
    repeat refine c_seq ?_
    refine c_cond_yes rfl (decide_eq_true hf) ?_
    repeat refine c_seq ?_
    refine d_region2 [1, 9, 17, 25, 33, 41, 49, 57, 65, 73, 81, 91, 100] ([⟨b13, [.int .i64 32, .int .i64 0], tC⟩, e]) follows (by kernel_rfl) ?_
    refine qd rfl rfl rfl rfl ?_
    refine qd rfl rfl rfl rfl ?_
    refine qd rfl rfl rfl rfl ?_
    refine d_as0 rfl rfl rfl (pure_quo_pos rfl rfl (by omega) (by omega) (by omega)) (congrArg (Value.int .i64) hqi) ?_
    refine qd rfl rfl rfl rfl ?_
    refine d_as0 rfl rfl rfl (pure_mul rfl rfl) (congrArg (Value.int .i64) hmq) ?_
    refine qd rfl rfl rfl rfl ?_
    refine qd rfl rfl rfl rfl ?_
    refine d_as0 rfl rfl rfl (pure_rem_pos rfl rfl (by omega) (by omega)) (congrArg (Value.int .i64) hri) ?_
    first | refine d_pure0 rfl rfl rfl (pure_add64 rfl rfl (by omega) (by omega)) ?_ | refine d_pure0 rfl rfl rfl (pure_add rfl rfl) ?_
    refine d_as0 rfl rfl rfl (pure_indexAddr_at rfl rfl rfl rfl rfl (by omega) (by omega)) (show _ = Value.pointer (some (p.add ((dw + i % W) * 2))) from by show Value.pointer (some (p.add (((dw : Int) + ((i % W : Nat) : Int)).toNat * 2))) = _; rw [show ((dw : Int) + ((i % W : Nat) : Int)).toNat = dw + i % W by omega]) ?_
    refine d_pure1 rfl rfl rfl (pure_cel_agg (vs := [Value.int .i64 c.1, .int .i64 c.2]) rfl rfl rfl rfl (fun j v h => (q1 j v h).1)) (by first | exact SubMem.refl _ | exact (SubMem.refl _).cons | exact (SubMem.refl _).cons.cons | exact (SubMem.refl _).cons.cons.cons | exact (SubMem.refl _).cons.cons.cons.cons | exact (fun w hh => Has.sublist (by repeat (first | exact List.Sublist.refl _ | exact List.nil_sublist _ | apply List.Sublist.cons_cons | apply List.Sublist.cons)) hh)) ?_
    refine d_store_agg 0 rfl rfl rfl rfl rfl (of_one rfl) rfl rfl rfl rfl (Nat.le_of_ble_eq_true rfl) (show _ = [Value.int .i64 c.1, .int .i64 c.2] from rfl) rfl rfl ?_
    refine d_nil ?_
    exact less_of ⟨rfl, rfl, rfl, rfl, rfl, rfl, rfl, rfl, trivial⟩ rfl
   ·rw [hTi, if_neg hf]
    repeat refine c_seq ?_
    refine c_cond_no rfl (decide_eq_false hf) ?_
    refine c_skip ?_
    exact less_of ⟨rfl, rfl, rfl, rfl, rfl, rfl, rfl, rfl, trivial⟩ rfl
  generalize T.getD i blC = c at *
  repeat refine s_seqs ?_
  refine s_reg ?_
  refine qm rfl rfl ?_
  refine step_pure rfl (pure_load_agg (i := 0) (vs := [Value.int .i64 c.1, .int .i64 c.2]) rfl rfl rfl rfl rfl (Nat.le_of_ble_eq_true rfl) rfl) ?_
  refine step_buildSlice rfl rfl rfl rfl elem33 (by decide) (by decide) (fill_ce c) (fun b48 => ?_)
  refine step_append 2 rfl rfl hse rfl rfl rfl rfl rfl elem33 rfl (by decide) rfl rfl rfl (src_own (j := 0) (sl_built uC tC b48 (ceR [c]) 1 rfl) rfl) (ceR_one _) (by omega) (by show _ * 16 ≤ _; omega) (fun base' cap' e' hs' => ?_)
  rw [ceR_app, ← htk] at hs'
  refine qa rfl rfl ?_
  refine Vc.step_end (fun a w ok => ?_)
  first | (refine WPs.run ?_ a w ok; clear ok w a) | skip
  repeat refine s_seqs ?_
  refine s_reg ?_
  refine qm rfl rfl ?_
  first | refine step_pure rfl (pure_add64 rfl rfl (by omega) (by omega)) ?_ | refine step_pure rfl (pure_add rfl rfl) ?_
  refine qa rfl rfl ?_
  refine Vc.step_end (fun a w ok => ?_)
  refine ⟨⟨i + 1, base', cap', e'⟩, _, ⟨hlt, hs'⟩, by show W * H - (i + 1) < W * H - i; omega, Gt.refl _, Less.ok ?_ ok⟩
  exact less_sub ⟨rfl, rfl, rfl, rfl, rfl, rfl, rfl, trivial⟩ (by repeat (first | exact List.Sublist.refl _ | exact List.nil_sublist _ | apply List.Sublist.cons_cons | apply List.Sublist.cons))
 ·have hie : i = W * H := by have := of_decide_eq_false h; omega
  rw [hie, List.take_of_length_le (by omega)] at hse
  subst hie
  refine s_exit fun a w ok => WPs.run ?_ a w ok
  clear ok w a
  repeat refine s_seqs ?_
  refine s_reg ?_
  refine qm rfl rfl ?_
  refine qa rfl rfl ?_
  refine Vc.step_end (fun a w ok => ?_)
  first | (refine WPs.run ?_ a w ok; clear ok w a) | skip
  exact s_ret fun a w ok => ends_wm on (.inr rfl) ok (res_tmp Try.results40 rfl) (m1 := [_]) (mr := []) (List.Perm.refl _) ocR_mono ⟨base, cap, e, by rw [hTl], rfl, by rw [hTl]; exact hse⟩
end Go.Proofs.Ytbcpgdjhomoghaa
