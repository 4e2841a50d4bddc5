/- What stands ahead of a packet: Head and Headed, the document's too, walked. -/
import Derived.Test.YtajcfafamdacdaaP0
namespace Go.Proofs.Ytajcfafamdacdaa
open Go.RowKit Go.Vc
set_option linter.unusedVariables false

def HdM (s n : Int) (u : Value) (m' : Mem) : Prop := ∃ base len cap e, u = .tuple #[.slice base len cap, .int .i64 (hdE s n)] ∧ m' = [e] ∧ SlIs ty5 5 e base len cap (row (hdB s n))
theorem head_any (s n : Int) (w : World) : Makes tb 14 [.int .i64 s, .int .i64 n] w (HdM s n) := by
  refine makes_of (fn := Try.f14) Try.func14 rfl Try.ntmps14 rfl ?_
  repeat refine c_seq ?_
  refine c_region ?_
  refine step_pure rfl (pure_assign rfl) ?_
  refine step_hole ?_
  refine step_pure rfl (pure_assign rfl) ?_
  refine step_nil ?_
  repeat refine c_seq ?_
  refine c_meet [(0, .int .i64 s), (1, .int .i64 n), (13, .bool (!(s == 0 || s == 1)))] [hole] ?_ ?_
  · repeat refine c_seq ?_
    refine c_region ?_
    refine step_pure rfl (pure_move rfl) ?_
    refine step_pure rfl (pure_neq rfl rfl) ?_
    refine step_pure rfl (pure_move rfl) ?_
    refine step_split (t := 10) rfl (fun h10 => ?_) (fun h10 => ?_)
    · refine step_pure rfl (pure_move rfl) ?_
      refine step_pure rfl (pure_neq rfl rfl) ?_
      refine step_pure rfl (pure_pick_yes rfl rfl) ?_
      refine step_nil ?_
      refine less_of ⟨rfl, rfl, ?_, trivial⟩ rfl
      refine congrArg some (congrArg Value.bool ?_)
      simp_all [bne]
    · refine step_pass rfl rfl rfl ?_
      refine step_pass rfl rfl rfl ?_
      refine step_pure rfl (pure_pick_no rfl rfl) ?_
      refine step_nil ?_
      refine less_of ⟨rfl, rfl, ?_, trivial⟩ rfl
      refine congrArg some (congrArg Value.bool ?_)
      simp_all [bne]
  repeat refine c_seq ?_
  refine c_cond rfl (fun h => ?_) (fun h => ?_)
  · have hno : hOk s n = false := by unfold hOk; simp at h; simp [h]
    obtain ⟨h1, h2⟩ := hd_no hno
    unfold HdM
    rw [h1, h2]
    repeat refine c_seq ?_
    refine c_region ?_
    refine step_pure rfl (pure_assign rfl) ?_
    refine step_pure rfl (pure_assign rfl) ?_
    refine step_nil ?_
    exact c_ret ⟨_, res_tmp2 Try.results14 rfl rfl, _, List.Sublist.refl _, none, 0, 0, hole, rfl, rfl, sl_nil _ _ (by decide)⟩
  have hs : s = 0 ∨ s = 1 := by simp at h; omega
  clear h
  have hw : IntKind.u8.wrap s = s := by rcases hs with rfl | rfl <;> rfl
  refine c_skip ?_
  repeat refine c_seq ?_
  refine c_region ?_
  refine step_pure rfl (pure_move rfl) ?_
  refine step_as rfl (pure_conv rfl rfl rfl rfl) (show _ = Value.int .u8 s from by rw [hw]) ?_
  refine step_buildSlice rfl rfl rfl rfl elem5 (by decide) (by decide) (fill_one .u8 _ rfl) (fun b17 => ?_)
  refine step_pure rfl (pure_move rfl) ?_
  have hs1 := sl_built ty5 5 b17 (row [s]) 1 rfl
  refine step_makes rfl fun31 rfl (fun w' hh kp => put_any [s] n _ w' (by have := (slis_mem hs1 (fun _ => .head _) hh).slv; exact this) (by simp)) ?_
  rintro u m' ⟨base2, len2, cap2, e2, rfl, rfl, hs2⟩
  refine step_pure rfl (pure_move rfl) ?_
  refine step_pure rfl (pure_extract rfl rfl) ?_
  refine step_pure rfl (pure_extract rfl rfl) ?_
  refine step_pure rfl (pure_assign rfl) ?_
  refine step_pure rfl (pure_assign rfl) ?_
  refine step_nil ?_
  repeat refine c_seq ?_
  refine c_region ?_
  refine step_pure rfl (pure_move rfl) ?_
  refine step_pure rfl (pure_neq rfl rfl) ?_
  refine step_nil ?_
  repeat refine c_seq ?_
  refine c_cond rfl (fun h => ?_) (fun h => ?_)
  · have h0 : vsize n = 0 := by
      apply Classical.byContradiction
      intro h2
      rw [if_neg h2] at h
      cases h
    have hno : hOk s n = false := by unfold hOk; simp [h0]
    obtain ⟨h1, h2⟩ := hd_no hno
    unfold HdM
    rw [h1, h2]
    repeat refine c_seq ?_
    refine c_region ?_
    refine step_pure rfl (pure_assign rfl) ?_
    refine step_hole ?_
    refine step_pure rfl (pure_assign rfl) ?_
    refine step_nil ?_
    exact c_ret ⟨_, res_tmp2 Try.results14 rfl rfl, [hole], (by repeat (first | exact List.Sublist.refl _ | exact List.nil_sublist _ | apply List.Sublist.cons_cons | apply List.Sublist.cons)), none, 0, 0, hole, rfl, rfl, sl_nil _ _ (by decide)⟩
  · have h0 : vsize n ≠ 0 := by
      intro h2
      rw [if_pos h2] at h
      cases h
    have hok : hOk s n = true := by unfold hOk; simpa [h0] using hs
    obtain ⟨h1, h2⟩ := hd_yes hok
    unfold HdM
    rw [h1, h2]
    rw [if_neg h0] at hs2
    refine c_skip ?_
    repeat refine c_seq ?_
    refine c_region ?_
    refine step_pure rfl (pure_move rfl) ?_
    refine step_pure rfl (pure_assign rfl) ?_
    refine step_pure rfl (pure_assign rfl) ?_
    refine step_nil ?_
    exact c_ret ⟨_, res_tmp2 Try.results14 rfl rfl, [e2], (by repeat (first | exact List.Sublist.refl _ | exact List.nil_sublist _ | apply List.Sublist.cons_cons | apply List.Sublist.cons)), base2, len2, cap2, e2, rfl, rfl, hs2⟩

theorem rhead_any (s n : Int) (w : World) : Makes tb 15 [.int .i64 s, .int .i64 n] w (HdM s n) := by
  refine makes_of (fn := Try.f15) Try.func15 rfl Try.ntmps15 rfl ?_
  repeat refine c_seq ?_
  refine c_region ?_
  refine step_pure rfl (pure_assign rfl) ?_
  refine step_hole ?_
  refine step_pure rfl (pure_assign rfl) ?_
  refine step_nil ?_
  repeat refine c_seq ?_
  refine c_meet [(0, .int .i64 s), (1, .int .i64 n), (16, .bool (!hOk s n))] [hole] ?_ ?_
  · repeat refine c_seq ?_
    refine c_region ?_
    refine step_pure rfl (pure_move rfl) ?_
    refine step_pure rfl (pure_lss rfl rfl) ?_
    refine step_pure rfl (pure_move rfl) ?_
    refine step_split (t := 8) rfl (fun h8 => ?_) (fun h8 => ?_)
    · refine step_pass rfl rfl rfl ?_
      refine step_pass rfl rfl rfl ?_
      refine step_pure rfl (pure_pick_yes rfl rfl) ?_
      refine step_pure rfl (pure_move rfl) ?_
      refine step_pass rfl rfl rfl ?_
      refine step_pass rfl rfl rfl ?_
      refine step_pass rfl rfl rfl ?_
      refine step_pure rfl (pure_pick_yes rfl rfl) ?_
      refine step_nil ?_
      refine less_of ⟨rfl, rfl, ?_, trivial⟩ rfl
      refine congrArg some (congrArg Value.bool ?_)
      unfold hOk
      rw [Bool.eq_iff_iff]
      simp_all <;> omega
    · refine step_pure rfl (pure_move rfl) ?_
      refine step_pure rfl (pure_gtr rfl rfl) ?_
      refine step_pure rfl (pure_pick_no rfl rfl) ?_
      refine step_pure rfl (pure_move rfl) ?_
      refine step_split (t := 12) rfl (fun h12 => ?_) (fun h12 => ?_)
      · refine step_pass rfl rfl rfl ?_
        refine step_pass rfl rfl rfl ?_
        refine step_pass rfl rfl rfl ?_
        refine step_pure rfl (pure_pick_yes rfl rfl) ?_
        refine step_nil ?_
        refine less_of ⟨rfl, rfl, ?_, trivial⟩ rfl
        refine congrArg some (congrArg Value.bool ?_)
        unfold hOk
        rw [Bool.eq_iff_iff]
        simp_all <;> omega
      · refine step_pure rfl (pure_move rfl) ?_
        refine step_gives rfl fun32 rfl (fun w _ _ => rsize_any n w) ?_
        refine step_pure rfl (pure_eql rfl rfl) ?_
        refine step_pure rfl (pure_pick_no rfl rfl) ?_
        refine step_nil ?_
        refine less_of ⟨rfl, rfl, ?_, trivial⟩ rfl
        refine congrArg some (congrArg Value.bool ?_)
        unfold hOk
        rw [Bool.eq_iff_iff]
        simp_all <;> omega
  repeat refine c_seq ?_
  refine c_cond rfl (fun h => ?_) (fun h => ?_)
  · have hno : hOk s n = false := by simpa using h
    obtain ⟨h1, h2⟩ := hd_no hno
    unfold HdM
    rw [h1, h2]
    repeat refine c_seq ?_
    refine c_region ?_
    refine step_pure rfl (pure_assign rfl) ?_
    refine step_pure rfl (pure_assign rfl) ?_
    refine step_nil ?_
    exact c_ret ⟨_, res_tmp2 Try.results15 rfl rfl, _, List.Sublist.refl _, none, 0, 0, hole, rfl, rfl, sl_nil _ _ (by decide)⟩
  have hok : hOk s n = true := by simpa using h
  clear h
  have hs := (hOk_in hok).1
  obtain ⟨h1, h2⟩ := hd_yes hok
  unfold HdM
  rw [h1, h2]
  have hw : IntKind.u8.wrap s = s := by rcases hs with rfl | rfl <;> rfl
  refine c_skip ?_
  repeat refine c_seq ?_
  refine c_region ?_
  refine step_pure rfl (pure_move rfl) ?_
  refine step_as rfl (pure_conv rfl rfl rfl rfl) (show _ = Value.int .u8 s from by rw [hw]) ?_
  refine step_buildSlice rfl rfl rfl rfl elem5 (by decide) (by decide) (fill_one .u8 _ rfl) (fun b19 => ?_)
  refine step_pure rfl (pure_move rfl) ?_
  have hs1 := sl_built ty5 5 b19 (row [s]) 1 rfl
  refine step_makes rfl fun33 rfl (fun w' hh kp => rbytes_any n w') ?_
  rintro u m' ⟨base2, cap2, e2, rfl, rfl, hs2⟩
  have hv8 := vsize_cases n
  refine step_append 1 rfl rfl hs1 rfl rfl rfl rfl rfl elem5 rfl (by decide) rfl rfl hs2.len (src_own (j := 0) hs2 rfl) (row_one _) (by omega) (by omega) (fun base3 cap3 e3 hs3 => ?_)
  rw [row_app] at hs3
  refine step_pure rfl (pure_assign rfl) ?_
  refine step_pure rfl (pure_assign rfl) ?_
  refine step_nil ?_
  exact c_ret ⟨_, res_tmp2 Try.results15 rfl rfl, [e3], (by repeat (first | exact List.Sublist.refl _ | exact List.nil_sublist _ | apply List.Sublist.cons_cons | apply List.Sublist.cons)), base3, _, cap3, e3, rfl, rfl, hs3⟩

/-! what stands ahead, read -/
def hdS (b : List Int) : Int := ((hdd b).map (·.1)).getD 0
def hdN (b : List Int) : Int := ((hdd b).map (·.2.1)).getD 0
def hdK (b : List Int) : Nat := ((hdd b).map (·.2.2)).getD 0
def hdX (b : List Int) : Int := if (hdd b).isSome = true then 0 else 30
def HdV (b : List Int) : Value := .tuple #[.int .i64 (hdS b), .int .i64 (hdN b), .int .i64 (hdK b), .int .i64 (hdX b)]
theorem hdv_no {b : List Int} (h : hdd b = none) : HdV b = .tuple #[.int .i64 0, .int .i64 0, .int .i64 0, .int .i64 30] := by
  unfold HdV hdS hdN hdK hdX
  rw [h]
  rfl
theorem hdv_yes {b : List Int} {s n : Int} {k : Nat} (h : hdd b = some (s, n, k)) : HdV b = .tuple #[.int .i64 s, .int .i64 n, .int .i64 k, .int .i64 0] := by
  unfold HdV hdS hdN hdK hdX
  rw [h]
  rfl
theorem res_tmp4 {B : Tb} {rs : Rs} {m : Mem} {fn : Func} {t u s r : Tmp} {v x y z : Value} (h : fn.results = #[.tmp t, .tmp u, .tmp s, .tmp r]) (hv : Vc.look rs t = some v) (hx : Vc.look rs u = some x) (hy : Vc.look rs s = some y) (hz : Vc.look rs r = some z) :
    ResIs B fn rs m (.tuple #[v, x, y, z]) := by
  refine ⟨fun a w hr hh => ?_⟩
  have g1 := hr _ _ hv
  have g2 := hr _ _ hx
  have g3 := hr _ _ hy
  have g4 := hr _ _ hz
  simp [results, h, Array.getD_eq_getD_getElem?, g1, g2, g3, g4]
theorem gt_parts (b : List Int) : gt b = if gE b = 0 then some (gN b, gS b) else none := by
  unfold gE gN gS
  cases gt b <;> rfl
theorem hdd_cons (x : Int) (r : List Int) : hdd (x :: r) = if x ≤ 1 then (if gE r = 0 then some (x, gN r, gS r + 1) else none) else none := by
  show (if x ≤ 1 then (gt r).map fun y => (x, y.1, y.2 + 1) else none) = _
  rw [gt_parts r]
  split
  · split <;> rfl
  · rfl
set_option maxHeartbeats 1000000 in
theorem headed_any (b : List Int) (v : Value) (w : World) (hv : SlV w v (row b)) (hb : Bytes b) (hl : b.length ≤ 140737488355328) : Gives tb 22 [v] w (HdV b) := by
  obtain ⟨base0, cap0, rfl, hc⟩ := hv.is
  rw [row_len] at hv ⊢
  have hroom := hv.room _ _ _ rfl
  refine gives_of (fn := Try.f22) Try.func22 rfl Try.ntmps22 rfl ?_
  repeat refine c_seq ?_
  refine c_region ?_
  refine step_pure rfl (pure_assign rfl) ?_
  refine step_pure rfl (pure_assign rfl) ?_
  refine step_pure rfl (pure_assign rfl) ?_
  refine step_pure rfl (pure_assign rfl) ?_
  refine step_nil ?_
  cases b with
  | nil =>
    rw [hdv_no (b := []) rfl]
    repeat refine c_seq ?_
    refine c_region ?_
    refine step_pure rfl (pure_move rfl) ?_
    refine step_pure rfl (pure_len_slice rfl rfl rfl) ?_
    refine step_pure rfl (pure_eql rfl rfl) ?_
    refine step_pure rfl (pure_move rfl) ?_
    refine step_pass rfl rfl rfl ?_
    refine step_pass rfl rfl rfl ?_
    refine step_pass rfl rfl rfl ?_
    refine step_pass rfl rfl rfl ?_
    refine step_pass rfl rfl rfl ?_
    refine step_pure rfl (pure_pick_yes rfl rfl) ?_
    refine step_nil ?_
    repeat refine c_seq ?_
    refine c_cond_yes rfl rfl ?_
    repeat refine c_seq ?_
    refine c_region ?_
    refine step_pure rfl (pure_assign rfl) ?_
    refine step_pure rfl (pure_assign rfl) ?_
    refine step_pure rfl (pure_assign rfl) ?_
    refine step_pure rfl (pure_assign rfl) ?_
    refine step_nil ?_
    exact c_ret ⟨_, res_tmp4 Try.results22 rfl rfl rfl rfl, rfl⟩
  | cons x r =>
  obtain ⟨p, rfl, hp⟩ := hc (by simp [ints])
  have hx := hb x (.head _)
  have hr : Bytes r := fun y hy => hb y (.tail _ hy)
  have hwx : IntKind.i64.wrap x = x := wrap_i64 (by omega) (by omega)
  have hcell0 : w.cell? (p.add 0) = some (.int .u8 x) := hp 0 _ rfl
  have hne : ((((x :: r).length : Nat) : Int) == 0) = false := by rw [beq_eq_false_iff_ne, List.length_cons]; omega
  repeat refine c_seq ?_
  refine c_region ?_
  refine step_pure rfl (pure_move rfl) ?_
  refine step_pure rfl (pure_len_slice rfl rfl rfl) ?_
  refine step_as rfl (pure_eql rfl rfl) (show _ = Value.bool false from by rw [hne]) ?_
  refine step_pure rfl (pure_move rfl) ?_
  refine step_pure rfl (pure_move rfl) ?_
  refine step_pure rfl (pure_indexAddr_at rfl rfl rfl rfl rfl (by decide) (by simp)) ?_
  refine step_pure rfl (pure_view_at rfl rfl rfl hcell0 List.not_mem_nil) ?_
  refine step_as rfl (pure_conv rfl rfl rfl rfl) (show _ = Value.int .i64 x from by rw [hwx]) ?_
  refine step_pure rfl (pure_gtr rfl rfl) ?_
  refine step_pure rfl (pure_pick_no rfl rfl) ?_
  refine step_nil ?_
  repeat refine c_seq ?_
  refine c_cond rfl (fun h => ?_) (fun h => ?_)
  · have hx1 : ¬ x ≤ 1 := by have := of_decide_eq_true h; omega
    rw [hdv_no (by rw [hdd_cons, if_neg hx1])]
    repeat refine c_seq ?_
    refine c_region ?_
    refine step_pure rfl (pure_assign rfl) ?_
    refine step_pure rfl (pure_assign rfl) ?_
    refine step_pure rfl (pure_assign rfl) ?_
    refine step_pure rfl (pure_assign rfl) ?_
    refine step_nil ?_
    exact c_ret ⟨_, res_tmp4 Try.results22 rfl rfl rfl rfl, rfl⟩
  have hx1 : x ≤ 1 := by have := of_decide_eq_false h; omega
  clear h
  have hd := hdd_cons x r
  rw [if_pos hx1] at hd
  have hsub : SlV w (subS (some p) cap0 1 1 (x :: r).length) (row r) := by
    have := slv_sub (lo := 1) (hi := (x :: r).length) hv (by simp) (by omega)
    rw [ints_sub] at this
    simpa [List.take_of_length_le] using this
  have hget := fun w' (kp : Keep w w' []) => get_any r _ w' (slv_keep0 hsub kp) hr (by rw [List.length_cons] at hl; omega)
  have hgS := gS_le r hr
  rw [List.length_cons] at hl
  refine c_skip ?_
  repeat refine c_seq ?_
  refine c_region ?_
  refine step_pure rfl (pure_move rfl) ?_
  refine step_as rfl (pure_sub_lo rfl rfl rfl rfl rfl (by decide) (by simp only [List.length_cons]; omega)) (show _ = subS (some p) cap0 1 1 (x :: r).length from rfl) ?_
  refine step_gives rfl fun38 rfl (fun w' _ kp => hget w' kp) ?_
  refine step_pure rfl (pure_move rfl) ?_
  refine step_pure rfl (pure_extract rfl rfl) ?_
  refine step_pure rfl (pure_extract rfl rfl) ?_
  refine step_pure rfl (pure_extract rfl rfl) ?_
  refine step_pure rfl (pure_assign rfl) ?_
  refine step_pure rfl (pure_assign rfl) ?_
  refine step_pure rfl (pure_assign rfl) ?_
  refine step_nil ?_
  repeat refine c_seq ?_
  refine c_region ?_
  refine step_pure rfl (pure_move rfl) ?_
  refine step_pure rfl (pure_neq rfl rfl) ?_
  refine step_nil ?_
  repeat refine c_seq ?_
  refine c_cond rfl (fun h => ?_) (fun h => ?_)
  · rw [hdv_no (by rw [hd, if_neg (by simpa using h)])]
    repeat refine c_seq ?_
    refine c_region ?_
    refine step_pure rfl (pure_assign rfl) ?_
    refine step_pure rfl (pure_assign rfl) ?_
    refine step_pure rfl (pure_assign rfl) ?_
    refine step_pure rfl (pure_assign rfl) ?_
    refine step_nil ?_
    exact c_ret ⟨_, res_tmp4 Try.results22 rfl rfl rfl rfl, rfl⟩
  · rw [hdv_yes (by rw [hd, if_pos (by simpa using h)])]
    refine c_skip ?_
    repeat refine c_seq ?_
    refine c_region ?_
    refine step_pure rfl (pure_move rfl) ?_
    refine step_pure rfl (pure_indexAddr_at rfl rfl rfl rfl rfl (by decide) (by simp)) ?_
    refine step_pure rfl (pure_view_at rfl rfl rfl hcell0 List.not_mem_nil) ?_
    refine step_as rfl (pure_conv rfl rfl rfl rfl) (show _ = Value.int .i64 x from by rw [hwx]) ?_
    refine step_pure rfl (pure_move rfl) ?_
    refine step_pure rfl (pure_move rfl) ?_
    first | refine step_pure rfl (pure_add64 rfl rfl (by omega) (by omega)) ?_ | refine step_pure rfl (pure_add rfl rfl) ?_
    refine step_pure rfl (pure_assign rfl) ?_
    refine step_pure rfl (pure_assign rfl) ?_
    refine step_pure rfl (pure_assign rfl) ?_
    refine step_pure rfl (pure_assign rfl) ?_
    refine step_nil ?_
    exact c_ret ⟨_, res_tmp4 Try.results22 rfl rfl rfl rfl, rfl⟩
set_option maxHeartbeats 1000000 in
theorem rheaded_any (b : List Int) (v : Value) (w : World) (hv : SlV w v (row b)) (hb : Bytes b) (hl : b.length ≤ 140737488355328) : Gives tb 23 [v] w (HdV b) := by
  obtain ⟨base0, cap0, rfl, hc⟩ := hv.is
  rw [row_len] at hv ⊢
  have hroom := hv.room _ _ _ rfl
  refine gives_of (fn := Try.f23) Try.func23 rfl Try.ntmps23 rfl ?_
  repeat refine c_seq ?_
  refine c_region ?_
  refine step_pure rfl (pure_assign rfl) ?_
  refine step_pure rfl (pure_assign rfl) ?_
  refine step_pure rfl (pure_assign rfl) ?_
  refine step_pure rfl (pure_assign rfl) ?_
  refine step_nil ?_
  cases b with
  | nil =>
    rw [hdv_no (b := []) rfl]
    repeat refine c_seq ?_
    refine c_region ?_
    refine step_pure rfl (pure_move rfl) ?_
    refine step_pure rfl (pure_len_slice rfl rfl rfl) ?_
    refine step_pure rfl (pure_eql rfl rfl) ?_
    refine step_pure rfl (pure_move rfl) ?_
    refine step_pass rfl rfl rfl ?_
    refine step_pass rfl rfl rfl ?_
    refine step_pass rfl rfl rfl ?_
    refine step_pass rfl rfl rfl ?_
    refine step_pure rfl (pure_pick_yes rfl rfl) ?_
    refine step_nil ?_
    repeat refine c_seq ?_
    refine c_cond_yes rfl rfl ?_
    repeat refine c_seq ?_
    refine c_region ?_
    refine step_pure rfl (pure_assign rfl) ?_
    refine step_pure rfl (pure_assign rfl) ?_
    refine step_pure rfl (pure_assign rfl) ?_
    refine step_pure rfl (pure_assign rfl) ?_
    refine step_nil ?_
    exact c_ret ⟨_, res_tmp4 Try.results23 rfl rfl rfl rfl, rfl⟩
  | cons x r =>
  obtain ⟨p, rfl, hp⟩ := hc (by simp [ints])
  have hx := hb x (.head _)
  have hr : Bytes r := fun y hy => hb y (.tail _ hy)
  have hwx : IntKind.i64.wrap x = x := wrap_i64 (by omega) (by omega)
  have hcell0 : w.cell? (p.add 0) = some (.int .u8 x) := hp 0 _ rfl
  have hne : ((((x :: r).length : Nat) : Int) == 0) = false := by rw [beq_eq_false_iff_ne, List.length_cons]; omega
  repeat refine c_seq ?_
  refine c_region ?_
  refine step_pure rfl (pure_move rfl) ?_
  refine step_pure rfl (pure_len_slice rfl rfl rfl) ?_
  refine step_as rfl (pure_eql rfl rfl) (show _ = Value.bool false from by rw [hne]) ?_
  refine step_pure rfl (pure_move rfl) ?_
  refine step_pure rfl (pure_move rfl) ?_
  refine step_pure rfl (pure_indexAddr_at rfl rfl rfl rfl rfl (by decide) (by simp)) ?_
  refine step_pure rfl (pure_view_at rfl rfl rfl hcell0 List.not_mem_nil) ?_
  refine step_pure rfl (pure_gtr rfl rfl) ?_
  refine step_pure rfl (pure_pick_no rfl rfl) ?_
  refine step_nil ?_
  repeat refine c_seq ?_
  refine c_cond rfl (fun h => ?_) (fun h => ?_)
  · have hx1 : ¬ x ≤ 1 := by have := of_decide_eq_true h; omega
    rw [hdv_no (by rw [hdd_cons, if_neg hx1])]
    repeat refine c_seq ?_
    refine c_region ?_
    refine step_pure rfl (pure_assign rfl) ?_
    refine step_pure rfl (pure_assign rfl) ?_
    refine step_pure rfl (pure_assign rfl) ?_
    refine step_pure rfl (pure_assign rfl) ?_
    refine step_nil ?_
    exact c_ret ⟨_, res_tmp4 Try.results23 rfl rfl rfl rfl, rfl⟩
  have hx1 : x ≤ 1 := by have := of_decide_eq_false h; omega
  clear h
  have hd := hdd_cons x r
  rw [if_pos hx1] at hd
  have hsub : SlV w (subS (some p) cap0 1 1 (x :: r).length) (row r) := by
    have := slv_sub (lo := 1) (hi := (x :: r).length) hv (by simp) (by omega)
    rw [ints_sub] at this
    simpa [List.take_of_length_le] using this
  have hget := fun w' (kp : Keep w w' []) => rget_any r _ w' (slv_keep0 hsub kp) hr (by rw [List.length_cons] at hl; omega)
  have hgS := gS_le r hr
  rw [List.length_cons] at hl
  refine c_skip ?_
  repeat refine c_seq ?_
  refine c_region ?_
  refine step_pure rfl (pure_move rfl) ?_
  refine step_as rfl (pure_sub_lo rfl rfl rfl rfl rfl (by decide) (by simp only [List.length_cons]; omega)) (show _ = subS (some p) cap0 1 1 (x :: r).length from rfl) ?_
  refine step_gives rfl fun39 rfl (fun w' _ kp => hget w' kp) ?_
  refine step_pure rfl (pure_move rfl) ?_
  refine step_pure rfl (pure_extract rfl rfl) ?_
  refine step_pure rfl (pure_extract rfl rfl) ?_
  refine step_pure rfl (pure_extract rfl rfl) ?_
  refine step_pure rfl (pure_assign rfl) ?_
  refine step_pure rfl (pure_assign rfl) ?_
  refine step_pure rfl (pure_assign rfl) ?_
  refine step_nil ?_
  repeat refine c_seq ?_
  refine c_region ?_
  refine step_pure rfl (pure_move rfl) ?_
  refine step_pure rfl (pure_neq rfl rfl) ?_
  refine step_nil ?_
  repeat refine c_seq ?_
  refine c_cond rfl (fun h => ?_) (fun h => ?_)
  · rw [hdv_no (by rw [hd, if_neg (by simpa using h)])]
    repeat refine c_seq ?_
    refine c_region ?_
    refine step_pure rfl (pure_assign rfl) ?_
    refine step_pure rfl (pure_assign rfl) ?_
    refine step_pure rfl (pure_assign rfl) ?_
    refine step_pure rfl (pure_assign rfl) ?_
    refine step_nil ?_
    exact c_ret ⟨_, res_tmp4 Try.results23 rfl rfl rfl rfl, rfl⟩
  · rw [hdv_yes (by rw [hd, if_pos (by simpa using h)])]
    refine c_skip ?_
    repeat refine c_seq ?_
    refine c_region ?_
    refine step_pure rfl (pure_move rfl) ?_
    refine step_pure rfl (pure_indexAddr_at rfl rfl rfl rfl rfl (by decide) (by simp)) ?_
    refine step_pure rfl (pure_view_at rfl rfl rfl hcell0 List.not_mem_nil) ?_
    refine step_as rfl (pure_conv rfl rfl rfl rfl) (show _ = Value.int .i64 x from by rw [hwx]) ?_
    refine step_pure rfl (pure_move rfl) ?_
    refine step_pure rfl (pure_move rfl) ?_
    first | refine step_pure rfl (pure_add64 rfl rfl (by omega) (by omega)) ?_ | refine step_pure rfl (pure_add rfl rfl) ?_
    refine step_pure rfl (pure_assign rfl) ?_
    refine step_pure rfl (pure_assign rfl) ?_
    refine step_pure rfl (pure_assign rfl) ?_
    refine step_pure rfl (pure_assign rfl) ?_
    refine step_nil ?_
    exact c_ret ⟨_, res_tmp4 Try.results23 rfl rfl rfl rfl, rfl⟩
end Go.Proofs.Ytajcfafamdacdaa
