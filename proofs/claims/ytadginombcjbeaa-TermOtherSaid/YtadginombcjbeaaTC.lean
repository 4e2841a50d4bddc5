/- Runes to acts, one: walked. -/
import Derived.Test.YtadginombcjbeaaTB
namespace Go.Proofs.Ytadginombcjbeaa
open Go.RowKit Go.Vc
set_option linter.unusedVariables false
abbrev tA : TypeId := 26
abbrev tP : TypeId := 28
theorem ac_len {a : Ac} (h : Ac8 a) : (acC a).length = 12 := by show (ints .i64 a.ps).length + 4 = 12; rw [ints_len, h]
theorem pa_len {p : Pa} (h : Ac8 p.act) : (paC p).length = 13 := congrArg Nat.succ (ac_len h)
theorem ac_le {a : Ac} (h : Ac8 a) : 0 + 12 ≤ (acC a).length := by rw [ac_len h]; exact Nat.le_refl _
theorem pa_le {p : Pa} (h : Ac8 p.act) : 0 + 13 ≤ (paC p).length := by rw [pa_len h]; exact Nat.le_refl _
theorem ac_one (a : Ac) : ∀ v ∈ acC a, v.oneCell' = true := by
 intro v hv
 rcases List.mem_cons.1 hv with rfl | hv
 ·rfl
 rcases List.mem_cons.1 hv with rfl | hv
 ·rfl
 rcases List.mem_cons.1 hv with rfl | hv
 ·rfl
 rcases List.mem_cons.1 hv with rfl | hv
 ·rfl
 exact ints_one _ _ v hv
theorem pa_one (p : Pa) : ∀ v ∈ paC p, v.oneCell' = true := by
 intro v hv
 rcases List.mem_cons.1 hv with rfl | hv
 ·rfl
 exact ac_one _ v hv
theorem load_all {l : List Value} {n : Nat} (h : l.length = n) : (l.drop 0).take n = l := by rw [List.drop_zero]; exact List.take_of_length_le (Nat.le_of_eq h)
theorem fill_agg {place : Nat → Option (Nat × Nat)} {cs l : List Value} {i off size : Nat} {rest : List (Nat × Value)} (hp : place i = some (off, size)) (hl : l.length = size) (h2 : 2 ≤ size) (hc : off + size ≤ cs.length) :
  fillL place cs ((i, .agg l.toArray) :: rest) = fillL place (splice cs off l) rest := by
 match l, hl with
 | [], hl => simp at hl; omega
 | [x], hl => simp at hl; omega
 | x :: y :: l, hl =>
  have h1 : Nat.beq (x :: y :: l).length size = true := by rw [hl]; exact Nat.beq_refl size
  have h3 : Nat.ble (off + size) cs.length = true := Nat.ble_eq_true_of_le hc
  show (match place i with | none => none | some (off, size) => bif Nat.beq (x :: y :: l).length size && Nat.ble (off + size) cs.length then fillL place (splice cs off (x :: y :: l)) rest else none) = _
  rw [hp]
  show (bif Nat.beq (x :: y :: l).length size && Nat.ble (off + size) cs.length then fillL place (splice cs off (x :: y :: l)) rest else none) = _
  rw [h1, h3]
  rfl
theorem fill_one {place : Nat → Option (Nat × Nat)} {cs l : List Value} {size : Nat} (hp : place 0 = some (0, size)) (hl : l.length = size) (h2 : 2 ≤ size) (hc : cs.length = size) : fillL place cs [(0, .agg l.toArray)] = some l := by
 rw [fill_agg hp hl h2 (by omega), splice_all (by rw [hl, hc])]
 rfl
def esV (e : Es) : Value := .tuple #[.agg (paC e.1).toArray, .agg (acC e.2.1).toArray, .bool e.2.2]
theorem res_cell2_tmp {B : Tb} {rs : Rs} {m : Mem} {fn : Func} {t s u : Tmp} {T S : TypeId} {b off i c off2 j : Nat} {e e2 : Ent} {d d2 : Ty} {vs vs2 : List Value} {x : Value} (h : fn.results = #[.cell t T, .cell s S, .tmp u])
  (hx : Vc.look rs t = some (.pointer (some ⟨b, off, none⟩))) (hT : B.ty T = some d) (hd : d.agg = true) (he : nth m i = some e) (hb : e.blk = b)
  (hl : off + d.size ≤ e.cells.length) (hv : (e.cells.drop off).take d.size = vs)
  (hy : Vc.look rs s = some (.pointer (some ⟨c, off2, none⟩))) (hS : B.ty S = some d2) (hd2 : d2.agg = true) (he2 : nth m j = some e2) (hb2 : e2.blk = c)
  (hl2 : off2 + d2.size ≤ e2.cells.length) (hv2 : (e2.cells.drop off2).take d2.size = vs2) (hu : Vc.look rs u = some x) : ResIs B fn rs m (.tuple #[.agg vs.toArray, .agg vs2.toArray, x]) := by
 refine ⟨fun a w hr hh => ?_⟩
 have h1 := hr t _ hx
 have h2 := hr u _ hu
 have h3 := hr s _ hy
 have hc := hh.cell (nth_mem he)
 have hc2 := hh.cell (nth_mem he2)
 rw [hb] at hc
 rw [hb2] at hc2
 subst hv hv2
 simp [results, h, Array.getD_eq_getD_getElem?, h1, h2, h3, asAddr, loadVar, ty_agg hT, ty_agg hS, hd, hd2, ty_size hT, ty_size hS, run_loadCells0 hc _ hl, run_loadCells0 hc2 _ hl2]
theorem none_any (p : Pa) (w : World) (h : Ac8 p.act) : Gives tb 69 [.agg (paC p).toArray] w (esV (esNone p)) := by
 refine gives_of (fn := Try.f69) Try.func69 rfl Try.ntmps69 rfl ?_
 repeat refine c_seq ?_
 refine c_region ?_
 refine step_box_agg rfl rfl (fun b1 => ?_)
 refine step_alloc rfl zero28 (fun b2 => ?_)
 refine step_alloc rfl zero26 (fun b3 => ?_)
 refine qa rfl rfl ?_
 refine step_nil ?_
 repeat refine c_seq ?_
 refine c_region ?_
 refine step_pure rfl (pure_load_agg (i := 2) (vs := paC p) rfl rfl rfl rfl rfl (pa_le h) (load_all (pa_len h))) ?_
 refine step_pure rfl (pure_build_struct (pl := [(0, 1), (1, 1), (2, 1), (3, 1), (4, 8)]) rfl zero26 rfl rfl rfl rfl) ?_
 refine step_store_agg 1 rfl rfl rfl (pa_one _) rfl (pa_len h) rfl rfl (Nat.le_of_ble_eq_true rfl) (splice_all (pa_len h)) ?_
 refine step_store_agg 0 rfl rfl rfl (ac_one zAc) rfl (ac_len zAc8) rfl rfl (Nat.le_of_ble_eq_true rfl) (splice_all (ac_len zAc8)) ?_
 refine qa rfl rfl ?_
 refine step_nil ?_
 exact c_ret ⟨_, res_cell2_tmp (i := 1) (j := 0) Try.results69 rfl rfl rfl rfl rfl (pa_le h) (load_all (pa_len h)) rfl rfl rfl rfl rfl (ac_le zAc8) (load_all (ac_len zAc8)) rfl, rfl⟩
theorem ground_any (m : Pa) (n : Int) (w : World) (h : Ac8 m.act) : Gives tb 70 [.agg (paC m).toArray, .int .i64 n] w (esV (esGround m n)) := by
 refine gives_of (fn := Try.f70) Try.func70 rfl Try.ntmps70 rfl ?_
 repeat refine c_seq ?_
 refine c_region ?_
 refine step_box_agg rfl rfl (fun b2 => ?_)
 refine step_alloc rfl zero28 (fun b4 => ?_)
 refine step_alloc rfl zero26 (fun b5 => ?_)
 refine qa rfl rfl ?_
 refine step_nil ?_
 repeat refine c_seq ?_
 refine c_meet [(1, .int .i64 n), (2, .pointer (some ⟨b2, 0, none⟩)), (4, .pointer (some ⟨b4, 0, none⟩)), (5, .pointer (some ⟨b5, 0, none⟩)), (12, .bool (decide (n < 0 ∨ n = 127)))] [⟨b5, acC zAc, tA⟩, ⟨b4, paC zPa, tP⟩, ⟨b2, paC m, 94⟩] ?_ ?_
 ·repeat refine c_seq ?_
  refine c_region ?_
  refine qm rfl rfl ?_
  refine step_pure rfl (pure_lss rfl rfl) ?_
  refine qm rfl rfl ?_
  refine step_split (t := 9) rfl (fun h9 => ?_) (fun h9 => ?_)
  ·refine qp rfl rfl rfl ?_
   refine qp rfl rfl rfl ?_
   refine step_pure rfl (pure_pick_yes rfl rfl) ?_
   refine step_nil ?_
   refine less_of ⟨rfl, rfl, rfl, rfl, ?_, trivial⟩ rfl
   refine congrArg some (congrArg Value.bool ?_)
   simp_all
   try first | omega | rfl | (rw [Bool.eq_iff_iff]; simp; done) | (rw [Bool.eq_iff_iff]; simp; omega)
  ·refine qm rfl rfl ?_
   refine step_pure rfl (pure_eql rfl rfl) ?_
   refine step_pure rfl (pure_pick_no rfl rfl) ?_
   refine step_nil ?_
   refine less_of ⟨rfl, rfl, rfl, rfl, ?_, trivial⟩ rfl
   refine congrArg some (congrArg Value.bool ?_)
   simp_all
   try first | omega | rfl | (rw [Bool.eq_iff_iff]; simp; done) | (rw [Bool.eq_iff_iff]; simp; omega)
 unfold esGround
 repeat refine c_seq ?_
 refine c_cond rfl (fun h1 => ?_) (fun h1 => ?_)
 ·rw [if_pos (of_decide_eq_true h1)]
  repeat refine c_seq ?_
  refine c_region ?_
  refine step_pure rfl (pure_fieldAddr rfl rfl rfl rfl rfl (by decide)) ?_
  refine step_pure rfl (pure_load_agg (i := 2) (vs := paC m) rfl rfl rfl rfl rfl (pa_le h) (load_all (pa_len h))) ?_
  refine step_gives rfl fun69 rfl (fun w _ _ => none_any m w h) ?_
  refine qx rfl rfl rfl ?_
  refine qx rfl rfl rfl ?_
  refine qx rfl rfl rfl ?_
  refine step_store_agg 1 rfl rfl rfl (pa_one _) rfl (pa_len h) rfl rfl (Nat.le_of_ble_eq_true rfl) (splice_all (pa_len h)) ?_
  refine step_store_agg 0 rfl rfl rfl (ac_one zAc) rfl (ac_len zAc8) rfl rfl (Nat.le_of_ble_eq_true rfl) (splice_all (ac_len zAc8)) ?_
  refine qa rfl rfl ?_
  refine step_nil ?_
  exact c_ret ⟨_, res_cell2_tmp (i := 1) (j := 0) Try.results70 rfl rfl rfl rfl rfl (pa_le h) (load_all (pa_len h)) rfl rfl rfl rfl rfl (ac_le zAc8) (load_all (ac_len zAc8)) rfl, rfl⟩
 ·rw [if_neg (of_decide_eq_false h1)]
  refine c_skip ?_
  repeat refine c_seq ?_
  refine c_region ?_
  refine step_pure rfl (pure_fieldAddr rfl rfl rfl rfl rfl (by decide)) ?_
  refine step_pure rfl (pure_load_agg (i := 2) (vs := paC m) rfl rfl rfl rfl rfl (pa_le h) (load_all (pa_len h))) ?_
  refine qm rfl rfl ?_
  refine step_pure rfl (pure_build_struct (pl := [(0, 1), (1, 1), (2, 1), (3, 1), (4, 8)]) rfl zero26 rfl rfl rfl rfl) ?_
  refine step_store_agg 1 rfl rfl rfl (pa_one _) rfl (pa_len h) rfl rfl (Nat.le_of_ble_eq_true rfl) (splice_all (pa_len h)) ?_
  refine step_store_agg 0 rfl rfl rfl (ac_one ⟨1, n, false, 0, z8⟩) rfl (ac_len (a := ⟨1, n, false, 0, z8⟩) rfl) rfl rfl (Nat.le_of_ble_eq_true rfl) (splice_all (ac_len (a := ⟨1, n, false, 0, z8⟩) rfl)) ?_
  refine qa rfl rfl ?_
  refine step_nil ?_
  exact c_ret ⟨_, res_cell2_tmp (i := 1) (j := 0) Try.results70 rfl rfl rfl rfl rfl (pa_le h) (load_all (pa_len h)) rfl rfl rfl rfl rfl (ac_le (show Ac8 ⟨1, n, false, 0, z8⟩ from rfl)) (load_all (ac_len (show Ac8 ⟨1, n, false, 0, z8⟩ from rfl))) rfl, rfl⟩
theorem osc_any (m : Pa) (n : Int) (w : World) (h : Ac8 m.act) : Gives tb 73 [.agg (paC m).toArray, .int .i64 n] w (esV (esOsc m n)) := by
 refine gives_of (fn := Try.f73) Try.func73 rfl Try.ntmps73 rfl ?_
 unfold esOsc
 repeat refine c_seq ?_
 refine c_region ?_
 refine step_box_agg rfl rfl (fun b2 => ?_)
 refine step_alloc rfl zero28 (fun b4 => ?_)
 refine step_alloc rfl zero26 (fun b5 => ?_)
 refine qa rfl rfl ?_
 refine step_nil ?_
 repeat refine c_seq ?_
 refine c_region ?_
 refine qm rfl rfl ?_
 refine step_pure rfl (pure_eql rfl rfl) ?_
 refine step_nil ?_
 repeat refine c_seq ?_
 refine c_cond rfl (fun h1 => ?_) (fun h1 => ?_)
 ·rw [if_pos (beq_iff_eq.1 h1)]
  repeat refine c_seq ?_
  refine c_region ?_
  refine step_pure rfl (pure_build_struct (pl := [(0, 1), (1, 12)]) rfl zero28 rfl rfl rfl rfl) ?_
  refine step_gives rfl fun69 rfl (fun w _ _ => none_any zPa w zAc8) ?_
  refine qx rfl rfl rfl ?_
  refine qx rfl rfl rfl ?_
  refine qx rfl rfl rfl ?_
  refine step_store_agg 1 rfl rfl rfl (pa_one zPa) rfl (pa_len (p := zPa) zAc8) rfl rfl (Nat.le_of_ble_eq_true rfl) (splice_all (pa_len (p := zPa) zAc8)) ?_
  refine step_store_agg 0 rfl rfl rfl (ac_one zAc) rfl (ac_len zAc8) rfl rfl (Nat.le_of_ble_eq_true rfl) (splice_all (ac_len zAc8)) ?_
  refine qa rfl rfl ?_
  refine step_nil ?_
  exact c_ret ⟨_, res_cell2_tmp (i := 1) (j := 0) Try.results73 rfl rfl rfl rfl rfl (pa_le (p := zPa) zAc8) (load_all (pa_len (p := zPa) zAc8)) rfl rfl rfl rfl rfl (ac_le zAc8) (load_all (ac_len zAc8)) rfl, rfl⟩
 ·rw [if_neg (by intro e; rw [e] at h1; cases h1)]
  refine c_skip ?_
  repeat refine c_seq ?_
  refine c_region ?_
  refine step_pure rfl (pure_fieldAddr rfl rfl rfl rfl rfl (by decide)) ?_
  refine step_pure rfl (pure_load_agg (i := 2) (vs := paC m) rfl rfl rfl rfl rfl (pa_le h) (load_all (pa_len h))) ?_
  refine step_gives rfl fun69 rfl (fun w _ _ => none_any m w h) ?_
  refine qx rfl rfl rfl ?_
  refine qx rfl rfl rfl ?_
  refine qx rfl rfl rfl ?_
  refine step_store_agg 1 rfl rfl rfl (pa_one _) rfl (pa_len h) rfl rfl (Nat.le_of_ble_eq_true rfl) (splice_all (pa_len h)) ?_
  refine step_store_agg 0 rfl rfl rfl (ac_one zAc) rfl (ac_len zAc8) rfl rfl (Nat.le_of_ble_eq_true rfl) (splice_all (ac_len zAc8)) ?_
  refine qa rfl rfl ?_
  refine step_nil ?_
  exact c_ret ⟨_, res_cell2_tmp (i := 1) (j := 0) Try.results73 rfl rfl rfl rfl rfl (pa_le h) (load_all (pa_len h)) rfl rfl rfl rfl rfl (ac_le zAc8) (load_all (ac_len zAc8)) rfl, rfl⟩
theorem escaped_any (m : Pa) (n : Int) (w : World) (h : Ac8 m.act) : Gives tb 71 [.agg (paC m).toArray, .int .i64 n] w (esV (esEscaped n)) := by
 refine gives_of (fn := Try.f71) Try.func71 rfl Try.ntmps71 rfl ?_
 unfold esEscaped
 repeat refine c_seq ?_
 refine c_region ?_
 refine step_box_agg rfl rfl (fun b2 => ?_)
 refine step_alloc rfl zero28 (fun b4 => ?_)
 refine step_alloc rfl zero26 (fun b5 => ?_)
 refine qa rfl rfl ?_
 refine step_nil ?_
 repeat refine c_seq ?_
 refine c_block ?_
 repeat refine c_seq ?_
 refine c_region ?_
 refine qm rfl rfl ?_
 refine step_pure rfl (pure_eql rfl rfl) ?_
 refine qa rfl rfl ?_
 refine step_nil ?_
 repeat refine c_seq ?_
 refine c_cond rfl (fun h1 => ?_) (fun h1 => ?_)
 ·rw [if_pos (beq_iff_eq.1 h1)]
  repeat refine c_seq ?_
  refine c_region ?_
  refine step_pure rfl (pure_build_struct (pl := [(0, 1), (1, 12)]) rfl zero28 rfl rfl rfl rfl) ?_
  refine step_gives rfl fun69 rfl (fun w _ _ => none_any ⟨2, zAc⟩ w zAc8) ?_
  refine qx rfl rfl rfl ?_
  refine qx rfl rfl rfl ?_
  refine qx rfl rfl rfl ?_
  refine step_store_agg 1 rfl rfl rfl (pa_one ⟨2, zAc⟩) rfl (pa_len (p := ⟨2, zAc⟩) zAc8) rfl rfl (Nat.le_of_ble_eq_true rfl) (splice_all (pa_len (p := ⟨2, zAc⟩) zAc8)) ?_
  refine step_store_agg 0 rfl rfl rfl (ac_one zAc) rfl (ac_len zAc8) rfl rfl (Nat.le_of_ble_eq_true rfl) (splice_all (ac_len zAc8)) ?_
  refine qa rfl rfl ?_
  refine step_nil ?_
  exact c_ret ⟨_, res_cell2_tmp (i := 1) (j := 0) Try.results71 rfl rfl rfl rfl rfl (pa_le (p := ⟨2, zAc⟩) zAc8) (load_all (pa_len (p := ⟨2, zAc⟩) zAc8)) rfl rfl rfl rfl rfl (ac_le zAc8) (load_all (ac_len zAc8)) rfl, rfl⟩
 rw [if_neg (by intro e; rw [e] at h1; cases h1)]
 repeat refine c_seq ?_
 refine c_region ?_
 refine qm rfl rfl ?_
 refine step_pure rfl (pure_eql rfl rfl) ?_
 refine qa rfl rfl ?_
 refine step_nil ?_
 repeat refine c_seq ?_
 refine c_cond rfl (fun h2 => ?_) (fun h2 => ?_)
 ·rw [if_pos (beq_iff_eq.1 h2)]
  repeat refine c_seq ?_
  refine c_region ?_
  refine step_pure rfl (pure_build_struct (pl := [(0, 1), (1, 12)]) rfl zero28 rfl rfl rfl rfl) ?_
  refine step_gives rfl fun69 rfl (fun w _ _ => none_any ⟨3, zAc⟩ w zAc8) ?_
  refine qx rfl rfl rfl ?_
  refine qx rfl rfl rfl ?_
  refine qx rfl rfl rfl ?_
  refine step_store_agg 1 rfl rfl rfl (pa_one ⟨3, zAc⟩) rfl (pa_len (p := ⟨3, zAc⟩) zAc8) rfl rfl (Nat.le_of_ble_eq_true rfl) (splice_all (pa_len (p := ⟨3, zAc⟩) zAc8)) ?_
  refine step_store_agg 0 rfl rfl rfl (ac_one zAc) rfl (ac_len zAc8) rfl rfl (Nat.le_of_ble_eq_true rfl) (splice_all (ac_len zAc8)) ?_
  refine qa rfl rfl ?_
  refine step_nil ?_
  exact c_ret ⟨_, res_cell2_tmp (i := 1) (j := 0) Try.results71 rfl rfl rfl rfl rfl (pa_le (p := ⟨3, zAc⟩) zAc8) (load_all (pa_len (p := ⟨3, zAc⟩) zAc8)) rfl rfl rfl rfl rfl (ac_le zAc8) (load_all (ac_len zAc8)) rfl, rfl⟩
 rw [if_neg (by intro e; rw [e] at h2; cases h2)]
 repeat refine c_seq ?_
 refine c_meet [(1, .int .i64 n), (2, .pointer (some ⟨b2, 0, none⟩)), (4, .pointer (some ⟨b4, 0, none⟩)), (5, .pointer (some ⟨b5, 0, none⟩)), (23, .bool (decide (48 ≤ n ∧ n < 127)))] [⟨b5, acC zAc, tA⟩, ⟨b4, paC zPa, tP⟩, ⟨b2, paC m, 94⟩] ?_ ?_
 ·clear h1 h2
  repeat refine c_seq ?_
  refine c_region ?_
  refine qm rfl rfl ?_
  refine step_pure rfl (pure_geq rfl rfl) ?_
  refine qm rfl rfl ?_
  refine step_split (t := 26) rfl (fun h26 => ?_) (fun h26 => ?_)
  ·refine qm rfl rfl ?_
   refine step_pure rfl (pure_lss rfl rfl) ?_
   refine step_pure rfl (pure_pick_yes rfl rfl) ?_
   refine qa rfl rfl ?_
   refine step_nil ?_
   refine less_of ⟨rfl, rfl, rfl, rfl, ?_, trivial⟩ rfl
   refine congrArg some (congrArg Value.bool ?_)
   simp_all
   try first | omega | rfl | (rw [Bool.eq_iff_iff]; simp; done) | (rw [Bool.eq_iff_iff]; simp; omega)
  ·refine qp rfl rfl rfl ?_
   refine qp rfl rfl rfl ?_
   refine step_pure rfl (pure_pick_no rfl rfl) ?_
   refine qa rfl rfl ?_
   refine step_nil ?_
   refine less_of ⟨rfl, rfl, rfl, rfl, ?_, trivial⟩ rfl
   refine congrArg some (congrArg Value.bool ?_)
   simp_all
   try first | omega | rfl | (rw [Bool.eq_iff_iff]; simp; done) | (rw [Bool.eq_iff_iff]; simp; omega)
 repeat refine c_seq ?_
 refine c_cond rfl (fun h3 => ?_) (fun h3 => ?_)
 ·rw [if_pos (of_decide_eq_true h3)]
  repeat refine c_seq ?_
  refine c_region ?_
  refine step_pure rfl (pure_build_struct (pl := [(0, 1), (1, 12)]) rfl zero28 rfl rfl rfl rfl) ?_
  refine qm rfl rfl ?_
  refine step_pure rfl (pure_build_struct (pl := [(0, 1), (1, 1), (2, 1), (3, 1), (4, 8)]) rfl zero26 rfl rfl rfl rfl) ?_
  refine step_store_agg 1 rfl rfl rfl (pa_one zPa) rfl (pa_len (p := zPa) zAc8) rfl rfl (Nat.le_of_ble_eq_true rfl) (splice_all (pa_len (p := zPa) zAc8)) ?_
  refine step_store_agg 0 rfl rfl rfl (ac_one ⟨3, n, false, 0, z8⟩) rfl (ac_len (a := ⟨3, n, false, 0, z8⟩) rfl) rfl rfl (Nat.le_of_ble_eq_true rfl) (splice_all (ac_len (a := ⟨3, n, false, 0, z8⟩) rfl)) ?_
  refine qa rfl rfl ?_
  refine step_nil ?_
  exact c_ret ⟨_, res_cell2_tmp (i := 1) (j := 0) Try.results71 rfl rfl rfl rfl rfl (pa_le (p := zPa) zAc8) (load_all (pa_len (p := zPa) zAc8)) rfl rfl rfl rfl rfl (ac_le (show Ac8 ⟨3, n, false, 0, z8⟩ from rfl)) (load_all (ac_len (show Ac8 ⟨3, n, false, 0, z8⟩ from rfl))) rfl, rfl⟩
 ·rw [if_neg (of_decide_eq_false h3)]
  refine c_skip ?_
  repeat refine c_seq ?_
  refine c_region ?_
  refine step_pure rfl (pure_build_struct (pl := [(0, 1), (1, 12)]) rfl zero28 rfl rfl rfl rfl) ?_
  refine step_gives rfl fun69 rfl (fun w _ _ => none_any zPa w zAc8) ?_
  refine qx rfl rfl rfl ?_
  refine qx rfl rfl rfl ?_
  refine qx rfl rfl rfl ?_
  refine step_store_agg 1 rfl rfl rfl (pa_one zPa) rfl (pa_len (p := zPa) zAc8) rfl rfl (Nat.le_of_ble_eq_true rfl) (splice_all (pa_len (p := zPa) zAc8)) ?_
  refine step_store_agg 0 rfl rfl rfl (ac_one zAc) rfl (ac_len zAc8) rfl rfl (Nat.le_of_ble_eq_true rfl) (splice_all (ac_len zAc8)) ?_
  refine qa rfl rfl ?_
  refine step_nil ?_
  exact c_ret ⟨_, res_cell2_tmp (i := 1) (j := 0) Try.results71 rfl rfl rfl rfl rfl (pa_le (p := zPa) zAc8) (load_all (pa_len (p := zPa) zAc8)) rfl rfl rfl rfl rfl (ac_le zAc8) (load_all (ac_len zAc8)) rfl, rfl⟩
end Go.Proofs.Ytadginombcjbeaa
/- Structs compared; which parsers may be: walked. -/
namespace Go.Proofs.Ytadginombcjbeaa
open Go.RowKit Go.Vc
set_option linter.unusedVariables false
theorem eqFields_all {P : Program} (d : Nat) (xs ys : Array Value) (w : World) : ∀ (fs : List Field) (spec : List (TypeId × Nat × Bool)), fs.map (fun f => (decide (f.name = "_"), f.type, f.offset)) = spec.map (fun s => (false, s.1, s.2.1)) →
  AllOf (fun s => ∃ a b, (part s.1 xs s.2.1).run P w = .ok a w ∧ (part s.1 ys s.2.1).run P w = .ok b w ∧ (Op.equalIn d s.1 a b).run P w = .ok s.2.2 w) spec →
  (Op.eqFields d xs ys fs).run P w = .ok (spec.all fun s => s.2.2) w
 | [], [], _, _ => by simp [Op.eqFields]
 | [], s :: spec, hm, _ => by cases hm
 | f :: fs, [], hm, _ => by cases hm
 | f :: fs, s :: spec, hm, hs => by
  simp only [List.map_cons, List.cons.injEq, Prod.mk.injEq, decide_eq_false_iff_not] at hm
  obtain ⟨⟨h1, h2, h3⟩, h4⟩ := hm
  obtain ⟨⟨a, b, e1, e2, e3⟩, hr⟩ := hs
  have ih := eqFields_all d xs ys w fs spec h4 hr
  simp only [Op.eqFields, h2, h3, Sem.run_bind, Sem.run_ite, h1, if_pos, not_false_eq_true, ne_eq, e1, e2, e3, Result.andThen_ok, ih]
  cases h5 : s.2.2 <;> simp [h5]
theorem ext_part {l : List Value} {i n : Nat} {x : List Value} (h : (l.drop i).take n = x) : Value.agg (l.toArray.extract i (i + n)) = .agg x.toArray := by
 rw [List.extract_toArray, List.extract_eq_take_drop, Nat.add_sub_cancel_left, h]
theorem part_agg {T : TypeId} {u : Ty} {l x : List Value} {i n : Nat} (hu : tb.ty T = some u) (ha : u.agg = true) (hn : u.size = n) (h : (l.drop i).take n = x) (w : World) : (part T l.toArray i).run tb.P w = .ok (.agg x.toArray) w := by
 rw [run_part_agg hu ha w, hn, ext_part h]
theorem guardUt : tb.P.eqGuardType tb.P.depth 23 = false := by kernel_rfl
theorem stoodUt : tb.P.stoodInHeld 23 = false := by kernel_rfl
theorem underUt : tb.P.underlying 23 = some (.struct (tb.P.fieldsOf 23)) := by kernel_rfl
theorem fieldsUt : (tb.P.fieldsOf 23).toList.map (fun f => (decide (f.name = "_"), f.type, f.offset)) = [(false, tI, 0), (false, tI, 1), (false, tI, 2)] := by kernel_rfl
theorem guardAc : tb.P.eqGuardType tb.P.depth 26 = false := by kernel_rfl
theorem stoodAc : tb.P.stoodInHeld 26 = false := by kernel_rfl
theorem underAc : tb.P.underlying 26 = some (.struct (tb.P.fieldsOf 26)) := by kernel_rfl
theorem fieldsAc : (tb.P.fieldsOf 26).toList.map (fun f => (decide (f.name = "_"), f.type, f.offset)) = [(false, tI, 0), (false, tI, 1), (false, 4, 2), (false, tI, 3), (false, 24, 4)] := by kernel_rfl
theorem guardPa : tb.P.eqGuardType tb.P.depth 28 = false := by kernel_rfl
theorem stoodPa : tb.P.stoodInHeld 28 = false := by kernel_rfl
theorem underPa : tb.P.underlying 28 = some (.struct (tb.P.fieldsOf 28)) := by kernel_rfl
theorem fieldsPa : (tb.P.fieldsOf 28).toList.map (fun f => (decide (f.name = "_"), f.type, f.offset)) = [(false, tI, 0), (false, 26, 1)] := by kernel_rfl
theorem underBool : tb.P.underlying 4 = some .bool := by kernel_rfl
abbrev hI : tb.ty tI = some uI := rfl
theorem run_eq_ut (d : Nat) (a b : Ut) (w : World) : (Op.equalIn (d + 2) 23 (.agg (utC a).toArray) (.agg (utC b).toArray)).run tb.P w = .ok (a.need == b.need && (a.val == b.val && (a.least == b.least && true))) w := by
 rw [run_equalIn_struct w (d + 1) _ _ _ underUt stoodUt]
 exact eqFields_all (d + 1) _ _ w _ [(tI, 0, a.need == b.need), (tI, 1, a.val == b.val), (tI, 2, a.least == b.least)] fieldsUt
  ⟨⟨_, _, run_part hI rfl rfl w, run_part hI rfl rfl w, run_eq_int hI rfl _ _ _ w⟩, ⟨_, _, run_part hI rfl rfl w, run_part hI rfl rfl w, run_eq_int hI rfl _ _ _ w⟩, ⟨_, _, run_part hI rfl rfl w, run_part hI rfl rfl w, run_eq_int hI rfl _ _ _ w⟩, trivial⟩
theorem eq_int_list (a b : List Int) : decide (a = b) = (a == b) := by
 rw [Bool.eq_iff_iff, decide_eq_true_iff, beq_iff_eq]
theorem ps_part {a : Ac} (h : Ac8 a) (w : World) : (part 24 (acC a).toArray 4).run tb.P w = .ok (.agg (ints .i64 a.ps).toArray) w :=
 part_agg (u := ⟨.array 8 tI, 8, true⟩) rfl rfl rfl (by show (ints .i64 a.ps).take 8 = _; exact List.take_of_length_le (by rw [ints_len, h]; exact Nat.le_refl _)) w
theorem run_eq_ac (d : Nat) (a b : Ac) (ha : Ac8 a) (hb : Ac8 b) (w : World) : (Op.equalIn (d + 3) 26 (.agg (acC a).toArray) (.agg (acC b).toArray)).run tb.P w = .ok (acEq a b) w := by
 rw [run_equalIn_struct w (d + 2) _ _ _ underAc stoodAc]
 have h := eqFields_all (d + 2) (acC a).toArray (acC b).toArray w _ [(tI, 0, a.kind == b.kind), (tI, 1, a.rune == b.rune), (4, 2, a.mark == b.mark), (tI, 3, a.many == b.many), (24, 4, decide (a.ps = b.ps))] fieldsAc
  ⟨⟨_, _, run_part hI rfl rfl w, run_part hI rfl rfl w, run_eq_int hI rfl _ _ _ w⟩, ⟨_, _, run_part hI rfl rfl w, run_part hI rfl rfl w, run_eq_int hI rfl _ _ _ w⟩, ⟨_, _, run_part (u := ⟨.bool, 1, false⟩) rfl rfl rfl w, run_part (u := ⟨.bool, 1, false⟩) rfl rfl rfl w, run_eq_bool underBool _ _ _ w⟩,
   ⟨_, _, run_part hI rfl rfl w, run_part hI rfl rfl w, run_eq_int hI rfl _ _ _ w⟩, ⟨_, _, ps_part ha w, ps_part hb w, run_eq_arr (dT := ⟨.array 8 tI, 8, true⟩) rfl rfl hI rfl rfl rfl _ _ _ ha hb w⟩, trivial⟩
 rw [h, eq_int_list]
 show Result.ok (a.kind == b.kind && (a.rune == b.rune && (a.mark == b.mark && (a.many == b.many && (a.ps == b.ps && true))))) w = _
 rw [Bool.and_true]
 rfl
theorem run_eq_pa (d : Nat) (a b : Pa) (ha : Ac8 a.act) (hb : Ac8 b.act) (w : World) : (Op.equalIn (d + 4) 28 (.agg (paC a).toArray) (.agg (paC b).toArray)).run tb.P w = .ok (a.st == b.st && (acEq a.act b.act && true)) w := by
 rw [run_equalIn_struct w (d + 3) _ _ _ underPa stoodPa]
 have hp : ∀ p : Pa, Ac8 p.act → (part 26 (paC p).toArray 1).run tb.P w = .ok (.agg (acC p.act).toArray) w := fun p h =>
  part_agg (u := ty26) rfl rfl rfl (by show (acC p.act).take 12 = _; exact List.take_of_length_le (Nat.le_of_eq (ac_len h))) w
 exact eqFields_all (d + 3) (paC a).toArray (paC b).toArray w _ [(tI, 0, a.st == b.st), (26, 1, acEq a.act b.act)] fieldsPa
  ⟨⟨_, _, run_part hI rfl rfl w, run_part hI rfl rfl w, run_eq_int hI rfl _ _ _ w⟩, ⟨_, _, hp a ha, hp b hb, run_eq_ac d a.act b.act ha hb w⟩, trivial⟩
section
variable {E : Env} {rs : Rs} {m : Mem} {dst : Option Tmp} {ty : TypeId} {pos : String} {aft : Array Edge} {gd : Option (Nat × Bool)} {x y : Operand} {U : TypeId}
theorem pure_neq_ac {a b : Ac} (ha : Ac8 a) (hb : Ac8 b) (hx : ev rs x = some (.agg (acC a).toArray)) (hy : ev rs y = some (.agg (acC b).toArray)) :
  Pure tb E rs m ⟨dst, .binOp .neq 26 x y U, ty, pos, aft, gd⟩ (.bool (!acEq a b)) := by
 refine ⟨fun a' w hr hh hk => ?_⟩
 have key := run_eq_ac 9997 a b ha hb w
 simp [execOp, ev_ok hr hx, ev_ok hr hy, eqGuard, binOp, guardAc, Op.equal, Op.maxDepth, key]
theorem acEq_refl (a : Ac) : acEq a a = true := by
 unfold acEq
 simp
theorem pure_eql_ut {a : Ut} (hx : ev rs x = some (.agg (utC a).toArray)) (hy : ev rs y = some (.agg (utC a).toArray)) :
  Pure tb E rs m ⟨dst, .binOp .eql 23 x y U, ty, pos, aft, gd⟩ (.bool true) := by
 refine ⟨fun a' w hr hh hk => ?_⟩
 have key := run_eq_ut 9998 a a w
 rw [beq_self_eq_true, beq_self_eq_true, beq_self_eq_true] at key
 simp [execOp, ev_ok hr hx, ev_ok hr hy, eqGuard, binOp, guardUt, Op.equal, Op.maxDepth, key]
theorem pure_eql_pa {a : Pa} (ha : Ac8 a.act) (hx : ev rs x = some (.agg (paC a).toArray)) (hy : ev rs y = some (.agg (paC a).toArray)) :
  Pure tb E rs m ⟨dst, .binOp .eql 28 x y U, ty, pos, aft, gd⟩ (.bool true) := by
 refine ⟨fun a' w hr hh hk => ?_⟩
 have key := run_eq_pa 9996 a a ha ha w
 rw [beq_self_eq_true, acEq_refl] at key
 simp [execOp, ev_ok hr hx, ev_ok hr hy, eqGuard, binOp, guardPa, Op.equal, Op.maxDepth, key]
end
/-! which may be -/
theorem take_any {l : List Int} {i : Nat} (h : i < l.length) (f : Int → Bool) : (l.take (i + 1)).any f = ((l.take i).any f || f l[i]) := by
 rw [List.take_succ_eq_append_getElem h, List.any_append, List.any_cons, List.any_nil, Bool.or_false]
set_option maxHeartbeats 2000000 in
theorem of_any (p : Pa) (w : World) (h : Ac8 p.act) : Gives tb 68 [.agg (paC p).toArray] w (.agg (paC (paOf p)).toArray) := by
 refine gives_of (fn := Try.f68) Try.func68 rfl Try.ntmps68 rfl ?_
 have hpl : p.act.ps.length = 8 := h
 repeat refine c_seq ?_
 refine c_region ?_
 refine step_box_agg rfl rfl (fun b1 => ?_)
 refine step_alloc rfl zero94 (fun b2 => ?_)
 refine step_nil ?_
 repeat refine c_seq ?_
 refine c_region ?_
 refine step_pure rfl (pure_fieldAddr rfl rfl rfl rfl rfl (by decide)) ?_
 refine step_pure rfl (pure_load_agg (i := 1) (vs := acC p.act) rfl rfl rfl rfl rfl (by show 1 + 12 ≤ (paC p).length; rw [pa_len h]; exact Nat.le_refl _) (by show (acC p.act).take 12 = _; exact List.take_of_length_le (Nat.le_of_eq (ac_len h)))) ?_
 refine step_alloc rfl zero26 (fun b3 => ?_)
 refine step_store_agg 0 rfl rfl rfl (ac_one _) rfl (ac_len h) rfl rfl (Nat.le_of_ble_eq_true rfl) (splice_all (ac_len h)) ?_
 refine step_nil ?_
 repeat refine c_seq ?_
 refine c_meet [(1, .pointer (some ⟨b1, 0, none⟩)), (2, .pointer (some ⟨b2, 0, none⟩)), (3, .pointer (some ⟨b3, 0, none⟩)), (4, .bool (paHead p))] [⟨b3, acC p.act, tA⟩, ⟨b2, paC zPa, 94⟩, ⟨b1, paC p, tP⟩] ?_ ?_
 ·unfold paHead
  repeat refine c_seq ?_
  refine c_region ?_
  refine step_pure rfl (pure_fieldAddr rfl rfl rfl rfl rfl (by decide)) ?_
  refine step_pure rfl (pure_load (i := 2) rfl rfl rfl rfl rfl rfl) ?_
  refine step_pure rfl (pure_lss rfl rfl) ?_
  refine qm rfl rfl ?_
  refine step_split (t := 12) rfl (fun h12 => ?_) (fun h12 => ?_)
  ·refine qp rfl rfl rfl ?_
   refine qp rfl rfl rfl ?_
   refine qp rfl rfl rfl ?_
   refine step_pure rfl (pure_pick_yes rfl rfl) ?_
   refine qm rfl rfl ?_
   refine qp rfl rfl rfl ?_
   refine qp rfl rfl rfl ?_
   refine qp rfl rfl rfl ?_
   refine step_pure rfl (pure_pick_yes rfl rfl) ?_
   refine qm rfl rfl ?_
   refine qp rfl rfl rfl ?_
   refine qp rfl rfl rfl ?_
   refine qp rfl rfl rfl ?_
   refine step_pure rfl (pure_pick_yes rfl rfl) ?_
   refine qm rfl rfl ?_
   refine qp rfl rfl rfl ?_
   refine qp rfl rfl rfl ?_
   refine qp rfl rfl rfl ?_
   refine step_pure rfl (pure_pick_yes rfl rfl) ?_
   refine qm rfl rfl ?_
   refine qp rfl rfl rfl ?_
   refine qp rfl rfl rfl ?_
   refine qp rfl rfl rfl ?_
   refine step_pure rfl (pure_pick_yes rfl rfl) ?_
   refine qa rfl rfl ?_
   refine step_nil ?_
   refine less_of ⟨rfl, rfl, rfl, ?_, trivial⟩ rfl
   refine congrArg some (congrArg Value.bool ?_)
   simp_all
   try first | omega | rfl | (rw [Bool.eq_iff_iff]; simp; done) | (rw [Bool.eq_iff_iff]; simp; omega)
  ·refine step_pure rfl (pure_fieldAddr rfl rfl rfl rfl rfl (by decide)) ?_
   refine step_pure rfl (pure_load (i := 2) rfl rfl rfl rfl rfl rfl) ?_
   refine step_pure rfl (pure_gtr rfl rfl) ?_
   refine step_pure rfl (pure_pick_no rfl rfl) ?_
   refine qm rfl rfl ?_
   refine step_split (t := 17) rfl (fun h17 => ?_) (fun h17 => ?_)
   ·refine qp rfl rfl rfl ?_
    refine qp rfl rfl rfl ?_
    refine qp rfl rfl rfl ?_
    refine step_pure rfl (pure_pick_yes rfl rfl) ?_
    refine qm rfl rfl ?_
    refine qp rfl rfl rfl ?_
    refine qp rfl rfl rfl ?_
    refine qp rfl rfl rfl ?_
    refine step_pure rfl (pure_pick_yes rfl rfl) ?_
    refine qm rfl rfl ?_
    refine qp rfl rfl rfl ?_
    refine qp rfl rfl rfl ?_
    refine qp rfl rfl rfl ?_
    refine step_pure rfl (pure_pick_yes rfl rfl) ?_
    refine qm rfl rfl ?_
    refine qp rfl rfl rfl ?_
    refine qp rfl rfl rfl ?_
    refine qp rfl rfl rfl ?_
    refine step_pure rfl (pure_pick_yes rfl rfl) ?_
    refine qa rfl rfl ?_
    refine step_nil ?_
    refine less_of ⟨rfl, rfl, rfl, ?_, trivial⟩ rfl
    refine congrArg some (congrArg Value.bool ?_)
    simp_all
    try first | omega | rfl | (rw [Bool.eq_iff_iff]; simp; done) | (rw [Bool.eq_iff_iff]; simp; omega)
   ·refine step_pure rfl (pure_fieldAddr rfl rfl rfl rfl rfl (by decide)) ?_
    refine step_pure rfl (pure_load (i := 0) rfl rfl rfl rfl rfl rfl) ?_
    refine step_pure rfl (pure_lss rfl rfl) ?_
    refine step_pure rfl (pure_pick_no rfl rfl) ?_
    refine qm rfl rfl ?_
    refine step_split (t := 22) rfl (fun h22 => ?_) (fun h22 => ?_)
    ·refine qp rfl rfl rfl ?_
     refine qp rfl rfl rfl ?_
     refine qp rfl rfl rfl ?_
     refine step_pure rfl (pure_pick_yes rfl rfl) ?_
     refine qm rfl rfl ?_
     refine qp rfl rfl rfl ?_
     refine qp rfl rfl rfl ?_
     refine qp rfl rfl rfl ?_
     refine step_pure rfl (pure_pick_yes rfl rfl) ?_
     refine qm rfl rfl ?_
     refine qp rfl rfl rfl ?_
     refine qp rfl rfl rfl ?_
     refine qp rfl rfl rfl ?_
     refine step_pure rfl (pure_pick_yes rfl rfl) ?_
     refine qa rfl rfl ?_
     refine step_nil ?_
     refine less_of ⟨rfl, rfl, rfl, ?_, trivial⟩ rfl
     refine congrArg some (congrArg Value.bool ?_)
     simp_all
     try first | omega | rfl | (rw [Bool.eq_iff_iff]; simp; done) | (rw [Bool.eq_iff_iff]; simp; omega)
    ·refine step_pure rfl (pure_fieldAddr rfl rfl rfl rfl rfl (by decide)) ?_
     refine step_pure rfl (pure_load (i := 0) rfl rfl rfl rfl rfl rfl) ?_
     refine step_pure rfl (pure_geq rfl rfl) ?_
     refine step_pure rfl (pure_pick_no rfl rfl) ?_
     refine qm rfl rfl ?_
     refine step_split (t := 27) rfl (fun h27 => ?_) (fun h27 => ?_)
     ·refine qp rfl rfl rfl ?_
      refine qp rfl rfl rfl ?_
      refine qp rfl rfl rfl ?_
      refine step_pure rfl (pure_pick_yes rfl rfl) ?_
      refine qm rfl rfl ?_
      refine qp rfl rfl rfl ?_
      refine qp rfl rfl rfl ?_
      refine qp rfl rfl rfl ?_
      refine step_pure rfl (pure_pick_yes rfl rfl) ?_
      refine qa rfl rfl ?_
      refine step_nil ?_
      refine less_of ⟨rfl, rfl, rfl, ?_, trivial⟩ rfl
      refine congrArg some (congrArg Value.bool ?_)
      simp_all
      try first | omega | rfl | (rw [Bool.eq_iff_iff]; simp; done) | (rw [Bool.eq_iff_iff]; simp; omega)
     ·refine step_pure rfl (pure_fieldAddr rfl rfl rfl rfl rfl (by decide)) ?_
      refine step_pure rfl (pure_load (i := 0) rfl rfl rfl rfl rfl rfl) ?_
      refine step_pure rfl (pure_neq rfl rfl) ?_
      refine step_pure rfl (pure_pick_no rfl rfl) ?_
      refine qm rfl rfl ?_
      refine step_split (t := 32) rfl (fun h32 => ?_) (fun h32 => ?_)
      ·refine qp rfl rfl rfl ?_
       refine qp rfl rfl rfl ?_
       refine qp rfl rfl rfl ?_
       refine step_pure rfl (pure_pick_yes rfl rfl) ?_
       refine qa rfl rfl ?_
       refine step_nil ?_
       refine less_of ⟨rfl, rfl, rfl, ?_, trivial⟩ rfl
       refine congrArg some (congrArg Value.bool ?_)
       simp_all
       try first | omega | rfl | (rw [Bool.eq_iff_iff]; simp; done) | (rw [Bool.eq_iff_iff]; simp; omega)
      ·refine step_pure rfl (pure_fieldAddr rfl rfl rfl rfl rfl (by decide)) ?_
       refine step_pure rfl (pure_load (i := 0) rfl rfl rfl rfl rfl rfl) ?_
       refine step_pure rfl (pure_neq rfl rfl) ?_
       refine step_pure rfl (pure_pick_no rfl rfl) ?_
       refine qa rfl rfl ?_
       refine step_nil ?_
       refine less_of ⟨rfl, rfl, rfl, ?_, trivial⟩ rfl
       refine congrArg some (congrArg Value.bool ?_)
       simp_all
       try first | omega | rfl | (rw [Bool.eq_iff_iff]; simp; done) | (rw [Bool.eq_iff_iff]; simp; omega)
 repeat refine c_seq ?_
 refine c_region ?_
 refine step_pure rfl (pure_fieldAddr rfl rfl rfl rfl rfl (by decide)) ?_
 refine step_pure rfl (pure_load_agg (i := 0) (vs := ints .i64 p.act.ps) rfl rfl rfl rfl rfl (by show 4 + 8 ≤ (acC p.act).length; rw [ac_len h]; exact Nat.le_refl _) (by show (ints .i64 p.act.ps).take 8 = _; exact List.take_of_length_le (Nat.le_of_eq (by rw [ints_len, h])))) ?_
 refine qm rfl rfl ?_
 refine step_nil ?_
 repeat refine c_seq ?_
 refine c_block ?_
 repeat refine c_seq ?_
 refine c_loop (α := Nat) (fun i => [(1, .pointer (some ⟨b1, 0, none⟩)), (2, .pointer (some ⟨b2, 0, none⟩)), (3, .pointer (some ⟨b3, 0, none⟩)), (4, .bool (paHead p || (p.act.ps.take i).any paBad)), (38, .agg (ints .i64 p.act.ps).toArray), (39, .int .i64 i)])
  (fun _ => [⟨b3, acC p.act, tA⟩, ⟨b2, paC zPa, 94⟩, ⟨b1, paC p, tP⟩]) (fun i => i ≤ 8) (fun i => 8 - i) 0 (Nat.zero_le _) (less_of ⟨rfl, rfl, rfl, by show some _ = some _; rw [List.take_zero, List.any_nil, Bool.or_false], rfl, rfl, trivial⟩ rfl) ?_
 intro i hi
 repeat refine c_seq ?_
 refine c_region ?_
 refine step_pure rfl (pure_lss rfl rfl) ?_
 refine step_nil ?_
 repeat refine c_seq ?_
 refine c_cond rfl (fun h1 => ?_) (fun h1 => ?_)
 ·have hlt : i < p.act.ps.length := by have := of_decide_eq_true h1; omega
  clear h1
  refine c_skip ?_
  repeat refine c_seq ?_
  refine c_block ?_
  repeat refine c_seq ?_
  refine c_region ?_
  refine step_pure rfl (pure_index (v := .int .i64 p.act.ps[i]) rfl rfl rfl rfl rfl rfl (by omega) (by omega) (by show (ints .i64 p.act.ps)[(i : Int).toNat * 1]? = _; rw [Int.toNat_natCast, Nat.mul_one]; unfold ints; rw [List.getElem?_map, List.getElem?_eq_getElem hlt]; rfl)) ?_
  refine qa rfl rfl ?_
  refine step_nil ?_
  have ht := take_any hlt paBad
  generalize (p.act.ps.take i).any paBad = b at *
  generalize p.act.ps[i] = x at *
  repeat refine c_seq ?_
  refine c_meet [(1, .pointer (some ⟨b1, 0, none⟩)), (2, .pointer (some ⟨b2, 0, none⟩)), (3, .pointer (some ⟨b3, 0, none⟩)), (4, .bool (paHead p || (b || paBad x))), (38, .agg (ints .i64 p.act.ps).toArray), (39, .int .i64 i)] [⟨b3, acC p.act, tA⟩, ⟨b2, paC zPa, 94⟩, ⟨b1, paC p, tP⟩] ?_ ?_
  ·unfold paBad
   generalize paHead p = q at *
   clear ht
   repeat refine c_seq ?_
   refine c_region ?_
   refine qm rfl rfl ?_
   refine qm rfl rfl ?_
   refine step_split (t := 43) rfl (fun h43 => ?_) (fun h43 => ?_)
   ·refine qp rfl rfl rfl ?_
    refine qp rfl rfl rfl ?_
    refine step_pure rfl (pure_pick_yes rfl rfl) ?_
    refine qm rfl rfl ?_
    refine qp rfl rfl rfl ?_
    refine qp rfl rfl rfl ?_
    refine step_pure rfl (pure_pick_yes rfl rfl) ?_
    refine qa rfl rfl ?_
    refine step_nil ?_
    refine less_of ⟨rfl, rfl, rfl, ?_, rfl, rfl, trivial⟩ rfl
    refine congrArg some (congrArg Value.bool ?_)
    cases q <;> cases b <;> simp_all
    all_goals try first | omega | rfl | (rw [Bool.eq_iff_iff]; simp; done) | (rw [Bool.eq_iff_iff]; simp; omega)
   ·refine qm rfl rfl ?_
    refine step_pure rfl (pure_lss rfl rfl) ?_
    refine step_pure rfl (pure_pick_no rfl rfl) ?_
    refine qm rfl rfl ?_
    refine step_split (t := 47) rfl (fun h47 => ?_) (fun h47 => ?_)
    ·refine qp rfl rfl rfl ?_
     refine qp rfl rfl rfl ?_
     refine step_pure rfl (pure_pick_yes rfl rfl) ?_
     refine qa rfl rfl ?_
     refine step_nil ?_
     refine less_of ⟨rfl, rfl, rfl, ?_, rfl, rfl, trivial⟩ rfl
     refine congrArg some (congrArg Value.bool ?_)
     cases q <;> cases b <;> simp_all
     all_goals try first | omega | rfl | (rw [Bool.eq_iff_iff]; simp; done) | (rw [Bool.eq_iff_iff]; simp; omega)
    ·refine qm rfl rfl ?_
     refine step_pure rfl (pure_gtr rfl rfl) ?_
     refine step_pure rfl (pure_pick_no rfl rfl) ?_
     refine qa rfl rfl ?_
     refine step_nil ?_
     refine less_of ⟨rfl, rfl, rfl, ?_, rfl, rfl, trivial⟩ rfl
     refine congrArg some (congrArg Value.bool ?_)
     cases q <;> cases b <;> simp_all
     all_goals try first | omega | rfl | (rw [Bool.eq_iff_iff]; simp; done) | (rw [Bool.eq_iff_iff]; simp; omega)
  repeat refine c_seq ?_
  refine c_region ?_
  first | refine step_pure rfl (pure_add64 rfl rfl (by omega) (by omega)) ?_ | refine step_pure rfl (pure_add rfl rfl) ?_
  refine qm rfl rfl ?_
  refine step_nil ?_
  exact ⟨i + 1, by omega, by omega, less_regs ⟨rfl, rfl, rfl, by show some _ = some _; rw [ht], rfl, rfl, trivial⟩⟩
 ·have h8 : i = 8 := by have := of_decide_eq_false h1; omega
  subst h8
  rw [List.take_of_length_le (Nat.le_of_eq hpl)]
  refine c_exit ?_
  repeat refine c_seq ?_
  refine c_meet [(1, .pointer (some ⟨b1, 0, none⟩)), (2, .pointer (some ⟨b2, 0, none⟩)), (62, .bool (paWrong p))] [⟨b3, acC p.act, tA⟩, ⟨b2, paC zPa, 94⟩, ⟨b1, paC p, tP⟩] ?_ ?_
  ·clear h1 hi
   unfold paWrong
   generalize (paHead p || p.act.ps.any paBad) = q at *
   repeat refine c_seq ?_
   refine c_region ?_
   refine qm rfl rfl ?_
   refine qm rfl rfl ?_
   refine step_split (t := 53) rfl (fun h53 => ?_) (fun h53 => ?_)
   ·refine qp rfl rfl rfl ?_
    refine qp rfl rfl rfl ?_
    refine qp rfl rfl rfl ?_
    refine qp rfl rfl rfl ?_
    refine qp rfl rfl rfl ?_
    refine qp rfl rfl rfl ?_
    refine qp rfl rfl rfl ?_
    refine qp rfl rfl rfl ?_
    refine step_pure rfl (pure_pick_yes rfl rfl) ?_
    refine step_nil ?_
    refine less_of ⟨rfl, rfl, ?_, trivial⟩ rfl
    refine congrArg some (congrArg Value.bool ?_)
    simp_all
   ·refine step_pure rfl (pure_fieldAddr rfl rfl rfl rfl rfl (by decide)) ?_
    refine step_pure rfl (pure_load (i := 2) rfl rfl rfl rfl rfl rfl) ?_
    refine step_pure rfl (pure_neq rfl rfl) ?_
    refine qm rfl rfl ?_
    refine step_split (t := 57) rfl (fun h57 => ?_) (fun h57 => ?_)
    ·refine step_pure rfl (pure_load_agg (i := 0) (vs := acC p.act) rfl rfl rfl rfl rfl (ac_le h) (load_all (ac_len h))) ?_
     refine step_pure rfl (pure_build_struct (pl := [(0, 1), (1, 1), (2, 1), (3, 1), (4, 8)]) rfl zero26 rfl rfl rfl rfl) ?_
     refine step_pure rfl (pure_neq_ac (b := zAc) h zAc8 rfl rfl) ?_
     refine step_pure rfl (pure_pick_yes rfl rfl) ?_
     refine step_pure rfl (pure_pick_no rfl rfl) ?_
     refine step_nil ?_
     refine less_of ⟨rfl, rfl, ?_, trivial⟩ rfl
     refine congrArg some (congrArg Value.bool ?_)
     simp_all
    ·refine qp rfl rfl rfl ?_
     refine qp rfl rfl rfl ?_
     refine qp rfl rfl rfl ?_
     refine step_pure rfl (pure_pick_no rfl rfl) ?_
     refine step_pure rfl (pure_pick_no rfl rfl) ?_
     refine step_nil ?_
     refine less_of ⟨rfl, rfl, ?_, trivial⟩ rfl
     refine congrArg some (congrArg Value.bool ?_)
     simp_all
  unfold paOf
  repeat refine c_seq ?_
  refine c_cond rfl (fun h2 => ?_) (fun h2 => ?_)
  ·rw [if_pos h2]
   repeat refine c_seq ?_
   refine c_region ?_
   refine step_pure rfl (pure_build_struct (pl := [(0, 13)]) rfl zero94 rfl rfl rfl rfl) ?_
   first | refine step_store_agg 0 rfl rfl rfl (by decide) rfl rfl rfl rfl (by decide) rfl ?_ | refine step_store_agg 1 rfl rfl rfl (by decide) rfl rfl rfl rfl (by decide) rfl ?_ | refine step_store_agg 2 rfl rfl rfl (by decide) rfl rfl rfl rfl (by decide) rfl ?_ | refine step_store_agg 3 rfl rfl rfl (by decide) rfl rfl rfl rfl (by decide) rfl ?_ | refine step_store_agg 4 rfl rfl rfl (by decide) rfl rfl rfl rfl (by decide) rfl ?_ | refine step_store_agg 5 rfl rfl rfl (by decide) rfl rfl rfl rfl (by decide) rfl ?_ | refine step_store_agg 0 rfl rfl rfl (of_one rfl) rfl rfl rfl rfl (Nat.le_of_ble_eq_true rfl) rfl ?_ | refine step_store_agg 1 rfl rfl rfl (of_one rfl) rfl rfl rfl rfl (Nat.le_of_ble_eq_true rfl) rfl ?_ | refine step_store_agg 2 rfl rfl rfl (of_one rfl) rfl rfl rfl rfl (Nat.le_of_ble_eq_true rfl) rfl ?_ | refine step_store_agg 3 rfl rfl rfl (of_one rfl) rfl rfl rfl rfl (Nat.le_of_ble_eq_true rfl) rfl ?_ | refine step_store_agg 4 rfl rfl rfl (of_one rfl) rfl rfl rfl rfl (Nat.le_of_ble_eq_true rfl) rfl ?_ | refine step_store_agg 5 rfl rfl rfl (of_one rfl) rfl rfl rfl rfl (Nat.le_of_ble_eq_true rfl) rfl ?_
   refine step_nil ?_
   exact c_ret ⟨_, res_cell_agg (i := 1) Try.results68 rfl rfl rfl rfl rfl (Nat.le_of_ble_eq_true rfl) rfl, rfl⟩
  ·rw [h2, if_neg (by decide)]
   refine c_skip ?_
   repeat refine c_seq ?_
   refine c_region ?_
   refine step_pure rfl (pure_load_agg (i := 2) (vs := paC p) rfl rfl rfl rfl rfl (pa_le h) (load_all (pa_len h))) ?_
   refine step_pure rfl (pure_build_struct (vs := [(0, .agg (paC p).toArray)]) (pl := [(0, 13)]) rfl zero94 rfl rfl rfl (fill_one rfl (pa_len h) (by decide) rfl)) ?_
   refine step_store_agg 1 rfl rfl rfl (pa_one _) rfl (pa_len h) rfl rfl (Nat.le_of_ble_eq_true rfl) (splice_all (pa_len h)) ?_
   refine step_nil ?_
   exact c_ret ⟨_, res_cell_agg (i := 1) Try.results68 rfl rfl rfl rfl rfl (pa_le h) (load_all (pa_len h)), rfl⟩
end Go.Proofs.Ytadginombcjbeaa
