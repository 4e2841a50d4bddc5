/- What a reader reads: number and data, walked. -/
import Derived.Test.YtphpmallnlajjaaF12
import Derived.Test.YtphpmallnlajjaaVx
namespace Go.Proofs.Ytphpmallnlajjaa
open Go.RowKit Go.Vc
set_option linter.unusedVariables false

theorem clone2_any (ns : List Int) (v : Value) (w : World) (hv : SlV w v (row ns)) (hn : ns.length ≤ 70368744177664) :
    Makes tb 44 [v] w fun u m' => ∃ base cap e, u = .slice base ns.length cap ∧ m' = [e] ∧ SlIs ty5 5 e base ns.length cap (row ns) := by
  obtain ⟨base0, cap0, rfl, hc⟩ := hv.is
  rw [row_len] at hv ⊢
  refine makes_of (fn := Try.f44) Try.func44 rfl Try.ntmps44 rfl ?_
  repeat refine c_seq ?_
  refine c_region ?_
  refine step_pure rfl (pure_assign rfl) ?_
  refine step_hole ?_
  refine step_nil ?_
  repeat refine c_seq ?_
  refine c_region ?_
  refine step_pure rfl (pure_move rfl) ?_
  refine step_pure rfl (pure_nil_eql rfl rfl rfl rfl) ?_
  refine step_nil ?_
  repeat refine c_seq ?_
  refine c_cond rfl (fun h => ?_) (fun h => ?_)
  · have h0 : ns = [] := by
      cases base0 with
      | some p => cases h
      | none =>
        cases ns with
        | nil => rfl
        | cons x l => obtain ⟨p, hp, _⟩ := hc (by simp [ints]); cases hp
    subst h0
    repeat refine c_seq ?_
    refine c_region ?_
    refine step_pure rfl (pure_assign rfl) ?_
    refine step_nil ?_
    exact c_ret ⟨_, res_tmp Try.results44 rfl, _, List.Sublist.refl _, none, 0, hole, rfl, rfl, sl_nil _ _ (by decide)⟩
  · refine c_skip ?_
    repeat refine c_seq ?_
    refine c_region ?_
    refine step_buildSlice0 rfl rfl rfl rfl (fun b5 => ?_)
    refine step_pure rfl (pure_move rfl) ?_
    refine step_append 0 rfl rfl (sl_empty _ _ b5) rfl rfl rfl rfl rfl elem5 rfl (by decide) rfl rfl (by rw [row_len]; exact (Nat.mul_one _).symm) (src_slc (k := ns.length) (fun w hh hk => by have := (slv_keep0 hv hk).slc; rw [row_len] at this; exact this)) (row_one _) (by omega) (by omega) (fun base' cap' e' hs' => ?_)
    rw [Nat.zero_add, List.nil_append] at hs'
    rw [Nat.zero_add]
    refine step_pure rfl (pure_assign rfl) ?_
    refine step_nil ?_
    exact c_ret ⟨_, res_tmp Try.results44 rfl, [e'], (by show [e'].Sublist (_ :: _); exact List.Sublist.cons_cons _ (List.nil_sublist _)), base', cap', e', rfl, rfl, hs'⟩

theorem gS_le (b : List Int) (hb : Bytes b) : gS b ≤ b.length := by
  unfold gS
  cases h : gt b with
  | none => simp
  | some p =>
    obtain ⟨n, s⟩ := p
    exact (vb_gt hb h).2.2.2.1
theorem gE_ne (b : List Int) : (gE b != 0) = (gt b).isNone := by
  unfold gE
  cases (gt b).isNone <;> rfl

set_option maxHeartbeats 1000000 in
theorem number_any (b : List Int) (base : Option Addr) (cap blk T : Nat) (lost : Bool) (w : World) (hv : SlV w (.slice base b.length cap) (row b)) (hb : Bytes b) (hbl : b.length ≤ 140737488355328)
    (hnb : ∀ a, base = some a → a.block ≠ blk) (hc : w.heap[blk]? = some (.cells [Value.slice base b.length cap, Value.bool lost].toArray T (0, 0))) :
    Wr tb 37 [.pointer (some ⟨blk, 0, none⟩)] w blk T (fun v c' m1 => v = .int .i64 (gN b) ∧ c' = [subS base cap 1 (gS b) b.length, .bool (lost || (gt b).isNone)] ∧ m1 = []) := by
  refine wr_of (fn := Try.f37) Try.func37 rfl Try.ntmps37 rfl hc ?_
  have hget := fun w' (kp : Keep w w' [blk]) => get_any b _ w' (slv_keep hv kp (fun a l c h => by cases h; simpa using hnb _ rfl)) hb hbl
  have hS := gS_le b hb
  have hE := gE_ne b
  generalize (gt b).isNone = g at *
  repeat refine c_seq ?_
  refine c_region ?_
  refine step_pure rfl (pure_assign rfl) ?_
  refine step_nil ?_
  repeat refine c_seq ?_
  refine c_region ?_
  refine step_pure rfl (pure_move rfl) ?_
  refine step_pure rfl (pure_nilCheck rfl) ?_
  refine step_pure rfl (pure_fieldAddr rfl rfl rfl rfl rfl (by decide)) ?_
  first | refine step_pure rfl (pure_load (i := 0) rfl rfl rfl rfl rfl rfl) ?_ | refine step_pure rfl (pure_load (i := 1) rfl rfl rfl rfl rfl rfl) ?_ | refine step_pure rfl (pure_load (i := 2) rfl rfl rfl rfl rfl rfl) ?_ | refine step_pure rfl (pure_load (i := 3) rfl rfl rfl rfl rfl rfl) ?_ | refine step_pure rfl (pure_load (i := 4) rfl rfl rfl rfl rfl rfl) ?_ | refine step_pure rfl (pure_load (i := 5) rfl rfl rfl rfl rfl rfl) ?_
  refine step_gives rfl fun43 rfl (fun w' _ kp => hget w' kp) ?_
  refine step_pure rfl (pure_move rfl) ?_
  refine step_pure rfl (pure_extract rfl rfl) ?_
  refine step_pure rfl (pure_extract rfl rfl) ?_
  refine step_pure rfl (pure_extract rfl rfl) ?_
  refine step_pure rfl (pure_assign rfl) ?_
  refine step_pure rfl (pure_assign rfl) ?_
  refine step_pure rfl (pure_assign rfl) ?_
  refine step_nil ?_
  clear hget
  repeat refine c_seq ?_
  refine c_meet [(0, .pointer (some ⟨blk, 0, none⟩)), (3, .int .i64 (gN b)), (4, .int .i64 (gS b))] [⟨blk, [.slice base b.length cap, .bool (lost || g)], T⟩] ?_ ?_
  · repeat refine c_seq ?_
    refine c_region ?_
    refine step_pure rfl (pure_move rfl) ?_
    refine step_pure rfl (pure_move rfl) ?_
    refine step_pure rfl (pure_nilCheck rfl) ?_
    refine step_pure rfl (pure_fieldAddr rfl rfl rfl rfl rfl (by decide)) ?_
    first | refine step_pure rfl (pure_load (i := 0) rfl rfl rfl rfl rfl rfl) ?_ | refine step_pure rfl (pure_load (i := 1) rfl rfl rfl rfl rfl rfl) ?_ | refine step_pure rfl (pure_load (i := 2) rfl rfl rfl rfl rfl rfl) ?_ | refine step_pure rfl (pure_load (i := 3) rfl rfl rfl rfl rfl rfl) ?_ | refine step_pure rfl (pure_load (i := 4) rfl rfl rfl rfl rfl rfl) ?_ | refine step_pure rfl (pure_load (i := 5) rfl rfl rfl rfl rfl rfl) ?_
    refine step_pure rfl (pure_move rfl) ?_
    refine step_split (t := 20) rfl (fun h20 => ?_) (fun h20 => ?_)
    · refine step_pass rfl rfl rfl ?_
      refine step_pass rfl rfl rfl ?_
      refine step_pure rfl (pure_pick_yes rfl rfl) ?_
      refine step_pure rfl (pure_nilCheck rfl) ?_
      refine step_pure rfl (pure_fieldAddr rfl rfl rfl rfl rfl (by decide)) ?_
      refine step_store 0 rfl rfl rfl rfl rfl rfl rfl rfl (by show 1 < 2; decide) rfl ?_
      refine step_nil ?_
      refine less_of ⟨rfl, rfl, rfl, trivial⟩ (congrArg (fun x => [Ent.mk blk [Value.slice base b.length cap, Value.bool x] T]) ?_)
      simp_all
    · refine step_pure rfl (pure_move rfl) ?_
      refine step_as rfl (pure_neq rfl rfl) (show _ = Value.bool g from by rw [← hE]) ?_
      refine step_pure rfl (pure_pick_no rfl rfl) ?_
      refine step_pure rfl (pure_nilCheck rfl) ?_
      refine step_pure rfl (pure_fieldAddr rfl rfl rfl rfl rfl (by decide)) ?_
      refine step_store 0 rfl rfl rfl rfl rfl rfl rfl rfl (by show 1 < 2; decide) rfl ?_
      refine step_nil ?_
      refine less_of ⟨rfl, rfl, rfl, trivial⟩ (congrArg (fun x => [Ent.mk blk [Value.slice base b.length cap, Value.bool x] T]) ?_)
      simp_all
  repeat refine c_seq ?_
  refine c_region ?_
  refine step_pure rfl (pure_move rfl) ?_
  refine step_pure rfl (pure_move rfl) ?_
  refine step_pure rfl (pure_nilCheck rfl) ?_
  refine step_pure rfl (pure_fieldAddr rfl rfl rfl rfl rfl (by decide)) ?_
  first | refine step_pure rfl (pure_load (i := 0) rfl rfl rfl rfl rfl rfl) ?_ | refine step_pure rfl (pure_load (i := 1) rfl rfl rfl rfl rfl rfl) ?_ | refine step_pure rfl (pure_load (i := 2) rfl rfl rfl rfl rfl rfl) ?_ | refine step_pure rfl (pure_load (i := 3) rfl rfl rfl rfl rfl rfl) ?_ | refine step_pure rfl (pure_load (i := 4) rfl rfl rfl rfl rfl rfl) ?_ | refine step_pure rfl (pure_load (i := 5) rfl rfl rfl rfl rfl rfl) ?_
  refine step_pure rfl (pure_move rfl) ?_
  refine step_as rfl (pure_sub_lo rfl rfl rfl rfl rfl (by omega) (by omega)) (show _ = subS base cap 1 (gS b) b.length from rfl) ?_
  refine step_pure rfl (pure_nilCheck rfl) ?_
  refine step_pure rfl (pure_fieldAddr rfl rfl rfl rfl rfl (by decide)) ?_
  refine step_store 0 rfl rfl rfl rfl rfl rfl rfl rfl (by show 0 < 2; decide) rfl ?_
  refine step_nil ?_
  repeat refine c_seq ?_
  refine c_region ?_
  refine step_pure rfl (pure_move rfl) ?_
  refine step_pure rfl (pure_assign rfl) ?_
  refine step_nil ?_
  exact c_ret ⟨_, res_tmp Try.results37 rfl, _, [], List.Sublist.refl _, by simp, rfl, rfl, rfl⟩

def dK (b : List Int) (n : Int) : Nat := if 0 ≤ n ∧ n ≤ b.length then n.toNat else 0
def dBad (b : List Int) (n : Int) : Bool := !(decide (0 ≤ n) && decide (n ≤ b.length))
set_option maxHeartbeats 1000000 in
theorem data_any (b : List Int) (n : Int) (base : Option Addr) (cap blk T : Nat) (lost : Bool) (w : World) (hv : SlV w (.slice base b.length cap) (row b)) (hb : Bytes b) (hbl : b.length ≤ 70368744177664)
    (hnb : ∀ a, base = some a → a.block ≠ blk) (hc : w.heap[blk]? = some (.cells [Value.slice base b.length cap, Value.bool lost].toArray T (0, 0))) :
    Wr tb 38 [.pointer (some ⟨blk, 0, none⟩), .int .i64 n] w blk T (fun v c' m1 => ∃ base' cap' e, v = .slice base' (dK b n) cap' ∧ c' = [subS base cap 1 (dK b n) b.length, .bool (lost || dBad b n)] ∧ m1 = [e] ∧
      SlIs ty5 5 e base' (dK b n) cap' (row (b.take (dK b n)))) := by
  have hroom : b.length ≤ cap := hv.room _ _ _ rfl
  refine wr_of (fn := Try.f38) Try.func38 rfl Try.ntmps38 rfl hc ?_
  have hkl : dK b n ≤ b.length := by unfold dK; split <;> omega
  have hgood : dBad b n = false → n = (dK b n : Int) := by
    intro h
    unfold dBad at h
    simp at h
    unfold dK
    rw [if_pos h]
    omega
  have hbad : dBad b n = true → dK b n = 0 := by
    intro h
    unfold dBad at h
    unfold dK
    simp at h
    rw [if_neg (by omega)]
  have hdb : dBad b n = !(decide (0 ≤ n) && decide (n ≤ b.length)) := rfl
  have hsub : SlV w (subS base cap 1 0 (dK b n)) (row (b.take (dK b n))) := by
    have := slv_sub (lo := 0) (hi := dK b n) hv (by omega) (by omega)
    rw [ints_sub] at this
    simpa using this
  repeat refine c_seq ?_
  refine c_region ?_
  refine step_pure rfl (pure_assign rfl) ?_
  refine step_nil ?_
  repeat refine c_seq ?_
  refine c_meet [(0, .pointer (some ⟨blk, 0, none⟩)), (1, .int .i64 n), (16, .bool (dBad b n))] [⟨blk, [.slice base b.length cap, .bool lost], T⟩] ?_ ?_
  · repeat refine c_seq ?_
    refine c_region ?_
    refine step_pure rfl (pure_move rfl) ?_
    refine step_pure rfl (pure_lss rfl rfl) ?_
    refine step_pure rfl (pure_move rfl) ?_
    refine step_split (t := 8) rfl (fun h8 => ?_) (fun h8 => ?_)
    · refine step_pass rfl rfl rfl ?_
      refine step_pass rfl rfl rfl ?_
      refine step_pass rfl rfl rfl ?_
      refine step_pass rfl rfl rfl ?_
      refine step_pass rfl rfl rfl ?_
      refine step_pass rfl rfl rfl ?_
      refine step_pass rfl rfl rfl ?_
      refine step_pure rfl (pure_pick_yes rfl rfl) ?_
      refine step_nil ?_
      refine less_of ⟨rfl, rfl, congrArg some (congrArg Value.bool ?_), trivial⟩ rfl
      rw [hdb, Bool.eq_iff_iff]
      clear hdb hgood hbad hsub hv hnb hc hkl
      simp_all <;> omega
    · refine step_pure rfl (pure_move rfl) ?_
      refine step_pure rfl (pure_move rfl) ?_
      refine step_pure rfl (pure_nilCheck rfl) ?_
      refine step_pure rfl (pure_fieldAddr rfl rfl rfl rfl rfl (by decide)) ?_
      first | refine step_pure rfl (pure_load (i := 0) rfl rfl rfl rfl rfl rfl) ?_ | refine step_pure rfl (pure_load (i := 1) rfl rfl rfl rfl rfl rfl) ?_ | refine step_pure rfl (pure_load (i := 2) rfl rfl rfl rfl rfl rfl) ?_ | refine step_pure rfl (pure_load (i := 3) rfl rfl rfl rfl rfl rfl) ?_ | refine step_pure rfl (pure_load (i := 4) rfl rfl rfl rfl rfl rfl) ?_ | refine step_pure rfl (pure_load (i := 5) rfl rfl rfl rfl rfl rfl) ?_
      refine step_pure rfl (pure_len_slice rfl rfl rfl) ?_
      refine step_pure rfl (pure_gtr rfl rfl) ?_
      refine step_pure rfl (pure_pick_no rfl rfl) ?_
      refine step_nil ?_
      refine less_of ⟨rfl, rfl, congrArg some (congrArg Value.bool ?_), trivial⟩ rfl
      rw [hdb, Bool.eq_iff_iff]
      clear hdb hgood hbad hsub hv hnb hc hkl
      simp_all <;> omega
  generalize dBad b n = bad at *
  generalize hk : dK b n = k at *
  repeat refine c_seq ?_
  refine c_meet [(0, .pointer (some ⟨blk, 0, none⟩)), (1, .int .i64 k)] [⟨blk, [.slice base b.length cap, .bool (lost || bad)], T⟩] ?_ ?_
  · repeat refine c_seq ?_
    refine c_cond rfl (fun h => ?_) (fun h => ?_)
    · rw [hbad h, h, Bool.or_true]
      repeat refine c_seq ?_
      refine c_region ?_
      refine step_pure rfl (pure_move rfl) ?_
      refine step_pure rfl (pure_nilCheck rfl) ?_
      refine step_pure rfl (pure_fieldAddr rfl rfl rfl rfl rfl (by decide)) ?_
      refine step_store 0 rfl rfl rfl rfl rfl rfl rfl rfl (by show 1 < 2; decide) rfl ?_
      refine step_pure rfl (pure_assign rfl) ?_
      refine step_nil ?_
      exact less_of ⟨rfl, rfl, trivial⟩ rfl
    · rw [h, Bool.or_false]
      exact c_skip (less_of ⟨rfl, by show some (Value.int .i64 n) = some (Value.int .i64 k); rw [← hgood h], trivial⟩ rfl)
  have htl : (b.take k).length = k := by rw [List.length_take]; omega
  have hsub2 := fun w' (kp : Keep w w' [blk]) => clone2_any (b.take k) _ w' (slv_keep hsub kp (fun a l c h => by
    unfold subS at h
    cases base with
    | none => simp at h
    | some p =>
      have hp := hnb p rfl
      have : a = p ∨ a = p.add (0 * 1) := by
        split at h <;> simp at h <;> simp [h]
      rcases this with rfl | rfl
      · simpa using hp
      · simpa [Addr.add] using hp)) (by omega)
  rw [htl] at hsub2
  repeat refine c_seq ?_
  refine c_region ?_
  refine step_pure rfl (pure_move rfl) ?_
  refine step_pure rfl (pure_nilCheck rfl) ?_
  refine step_pure rfl (pure_fieldAddr rfl rfl rfl rfl rfl (by decide)) ?_
  first | refine step_pure rfl (pure_load (i := 0) rfl rfl rfl rfl rfl rfl) ?_ | refine step_pure rfl (pure_load (i := 1) rfl rfl rfl rfl rfl rfl) ?_ | refine step_pure rfl (pure_load (i := 2) rfl rfl rfl rfl rfl rfl) ?_ | refine step_pure rfl (pure_load (i := 3) rfl rfl rfl rfl rfl rfl) ?_ | refine step_pure rfl (pure_load (i := 4) rfl rfl rfl rfl rfl rfl) ?_ | refine step_pure rfl (pure_load (i := 5) rfl rfl rfl rfl rfl rfl) ?_
  refine step_pure rfl (pure_move rfl) ?_
  refine step_as rfl (pure_sub_hi rfl rfl rfl rfl rfl (by omega) (by omega)) (show _ = subS base cap 1 0 k from rfl) ?_
  refine step_makes rfl fun44 rfl (fun w' _ kp => hsub2 w' kp) ?_
  rintro u m' ⟨base1, cap1, e1, rfl, rfl, hs1⟩
  refine step_pure rfl (pure_assign rfl) ?_
  refine step_nil ?_
  repeat refine c_seq ?_
  refine c_region ?_
  refine step_pure rfl (pure_move rfl) ?_
  refine step_pure rfl (pure_move rfl) ?_
  refine step_pure rfl (pure_nilCheck rfl) ?_
  refine step_pure rfl (pure_fieldAddr rfl rfl rfl rfl rfl (by decide)) ?_
  first | refine step_pure rfl (pure_load (i := 0) rfl rfl rfl rfl rfl rfl) ?_ | refine step_pure rfl (pure_load (i := 1) rfl rfl rfl rfl rfl rfl) ?_ | refine step_pure rfl (pure_load (i := 2) rfl rfl rfl rfl rfl rfl) ?_ | refine step_pure rfl (pure_load (i := 3) rfl rfl rfl rfl rfl rfl) ?_ | refine step_pure rfl (pure_load (i := 4) rfl rfl rfl rfl rfl rfl) ?_ | refine step_pure rfl (pure_load (i := 5) rfl rfl rfl rfl rfl rfl) ?_
  refine step_pure rfl (pure_move rfl) ?_
  refine step_as rfl (pure_sub_lo rfl rfl rfl rfl rfl (by omega) (by omega)) (show _ = subS base cap 1 k b.length from rfl) ?_
  refine step_pure rfl (pure_nilCheck rfl) ?_
  refine step_pure rfl (pure_fieldAddr rfl rfl rfl rfl rfl (by decide)) ?_
  refine step_store 1 rfl rfl rfl rfl rfl rfl rfl rfl (by show 0 < 2; decide) rfl ?_
  refine step_nil ?_
  repeat refine c_seq ?_
  refine c_region ?_
  refine step_pure rfl (pure_move rfl) ?_
  refine step_pure rfl (pure_assign rfl) ?_
  refine step_nil ?_
  exact c_ret ⟨_, res_tmp Try.results38 rfl, _, [e1], List.Sublist.refl _, by simp, base1, cap1, e1, rfl, rfl, rfl, hs1⟩
end Go.Proofs.Ytphpmallnlajjaa
