/- Packets, plain: which may be, their bytes, what bytes are, what is padded. -/
import Derived.Test.YthieegnhjoehbaaFG
import Derived.Test.YthieegnhjoehbaaFH
namespace Go.Proofs.Ythieegnhjoehbaa
open Go.RowKit Go.Vc
set_option linter.unusedVariables false
structure Pk where
 side : Int
 num : Int
 fs : List Fr
def hOk (s n : Int) : Bool := (s == 0 || s == 1) && vsize n != 0
def hB (s n : Int) : List Int := s :: vb n
def pOk (p : Pk) : Bool := hOk p.side p.num && (wrOk p.fs && p.fs.length != 0)
def pB (p : Pk) : List Int := if pOk p = true then hB p.side p.num ++ wBs p.fs else []
/-- What stands ahead: the side, the number, how many bytes. -/
def hdd : List Int → Option (Int × Int × Nat)
 | [] => none
 | s :: r => if s ≤ 1 then (gt r).map fun x => (s, x.1, x.2 + 1) else none
def pRd (b : List Int) : Option Pk := (hdd b).bind fun h => (rdAll (b.drop h.2.2)).bind fun l => if l.length = 0 then none else some ⟨h.1, h.2.1, l⟩
theorem hOk_in {s n : Int} (h : hOk s n = true) : (s = 0 ∨ s = 1) ∧ vsize n ≠ 0 ∧ 0 ≤ n ∧ n < 4611686018427387904 := by
 unfold hOk at h
 simp at h
 have := vsize_cases n
 refine ⟨h.1, h.2, ?_, ?_⟩ <;> omega
theorem hOk_of {s n : Int} (h1 : s = 0 ∨ s = 1) (h0 : 0 ≤ n) (h2 : n < 4611686018427387904) : hOk s n = true := by
 unfold hOk
 have := vsize_ne h0 h2
 simp [this]
 exact h1
theorem hB_len (s n : Int) : (hB s n).length = vsize n + 1 := by
 unfold hB
 rw [List.length_cons, vb_len]
theorem hB_bytes {s n : Int} (h : hOk s n = true) : Bytes (hB s n) := by
 intro x hx
 rcases List.mem_cons.1 hx with rfl | hx
 ·have := (hOk_in h).1
  omega
 ·exact vb_bytes n x hx
theorem hdd_hB {s n : Int} (h : hOk s n = true) (r : List Int) : hdd (hB s n ++ r) = some (s, n, (hB s n).length) := by
 obtain ⟨h1, h2, h3, h4⟩ := hOk_in h
 show (if s ≤ 1 then (gt (vb n ++ r)).map fun x => (s, x.1, x.2 + 1) else none) = _
 rw [if_pos (by omega), gt_vb n r h3 h4, hB_len]
 rfl
theorem hdd_in {b : List Int} {s n : Int} {k : Nat} (hb : Bytes b) (h : hdd b = some (s, n, k)) : hOk s n = true ∧ b = hB s n ++ b.drop k ∧ k = (hB s n).length ∧ k ≤ b.length := by
 cases b with
 | nil => cases h
 | cons x r =>
  replace h : (if x ≤ 1 then (gt r).map fun y => (x, y.1, y.2 + 1) else none) = some (s, n, k) := h
  split at h
  ·rename_i hx
   cases hg : gt r with
   | none => rw [hg] at h; cases h
   | some y =>
    obtain ⟨m, q⟩ := y
    rw [hg] at h
    cases h
    have hbr : Bytes r := fun z hz => hb z (.tail _ hz)
    obtain ⟨h1, h2, rfl, h4, h5, h6⟩ := vb_gt hbr hg
    have h0 := hb _ (.head _)
    refine ⟨hOk_of (by omega) h1 h2, ?_, by rw [hB_len], by rw [List.length_cons]; omega⟩
    show s :: r = hB s m ++ r.drop (vsize m)
    unfold hB
    rw [← h5, List.cons_append, List.take_append_drop]
  ·cases h
theorem hdd_le {b : List Int} {s n : Int} {k : Nat} (hb : Bytes b) (h : hdd b = some (s, n, k)) : k ≤ b.length ∧ (s = 0 ∨ s = 1) ∧ 0 ≤ n ∧ n < 4611686018427387904 ∧ k ≤ 9 := by
 obtain ⟨h1, h2, h3, h4⟩ := hdd_in hb h
 obtain ⟨h5, h6, h7, h8⟩ := hOk_in h1
 have := vsize_cases n
 rw [hB_len] at h3
 exact ⟨h4, h5, h7, h8, by omega⟩
theorem pOk_in {p : Pk} (h : pOk p = true) : hOk p.side p.num = true ∧ wrOk p.fs = true ∧ p.fs.length ≠ 0 := by
 unfold pOk at h
 simpa using h
theorem pRd_pB {p : Pk} (h : pOk p = true) : pRd (pB p) = some p := by
 obtain ⟨h1, h2, h3⟩ := pOk_in h
 unfold pRd pB
 rw [if_pos h, hdd_hB h1]
 show (rdAll ((hB p.side p.num ++ wBs p.fs).drop (hB p.side p.num).length)).bind _ = _
 rw [List.drop_left, rd_wBs h2]
 show (if p.fs.length = 0 then none else some _) = _
 rw [if_neg h3]
theorem pRd_in {b : List Int} {p : Pk} (hb : Bytes b) (h : pRd b = some p) : pOk p = true ∧ pB p = b ∧ ∀ f ∈ p.fs, Bytes f.data := by
 unfold pRd at h
 cases hh : hdd b with
 | none => rw [hh] at h; cases h
 | some y =>
  obtain ⟨s, n, k⟩ := y
  rw [hh] at h
  replace h : ((rdAll (b.drop k)).bind fun l => if l.length = 0 then none else some (Pk.mk s n l)) = some p := h
  obtain ⟨h1, h2, h3, h4⟩ := hdd_in hb hh
  cases hr : rdAll (b.drop k) with
  | none => rw [hr] at h; cases h
  | some l =>
   rw [hr] at h
   replace h : (if l.length = 0 then none else some (Pk.mk s n l)) = some p := h
   split at h
   ·cases h
   ·rename_i hl
    cases h
    obtain ⟨h5, h6, h7⟩ := rdAll_read (fun x hx => hb x (List.mem_of_mem_drop hx)) hr
    have hok : pOk ⟨s, n, l⟩ = true := by
     unfold pOk
     rw [h1, h6]
     simpa using hl
    refine ⟨hok, ?_, h7⟩
    unfold pB
    rw [if_pos hok]
    show hB s n ++ wBs l = b
    rw [wBs_ok h6, ← h5, ← h2]
theorem pB_bytes {p : Pk} (h : ∀ f ∈ p.fs, Bytes f.data) : Bytes (pB p) := by
 unfold pB
 split
 ·rename_i hp
  intro x hx
  rcases List.mem_append.1 hx with hx | hx
  ·exact hB_bytes (pOk_in hp).1 x hx
  ·exact wBs_bytes h x hx
 ·intro x hx; cases hx
theorem pB_le (p : Pk) : (pB p).length ≤ 80009 := by
 unfold pB
 split
 ·have h1 := wBs_le p.fs
  have := vsize_cases p.num
  rw [List.length_append, hB_len]
  omega
 ·simp
/-! what is padded -/
def fit (more n : Int) : Bool := decide (1 ≤ n) && (decide (n ≤ 2048) && decide (1 + (vsize n : Int) + n = more))
def pFind (more : Int) : Option Int := if fit more (more - 2) = true then some (more - 2) else if fit more (more - 3) = true then some (more - 3) else none
theorem fit_in {more n : Int} (h : fit more n = true) : 1 ≤ n ∧ n ≤ 2048 ∧ 1 + (vsize n : Int) + n = more := by
 unfold fit at h
 simpa using h
theorem fit_of {more n : Int} (h1 : 1 ≤ n) (h2 : n ≤ 2048) (h3 : 1 + (vsize n : Int) + n = more) : fit more n = true := by
 unfold fit
 simp [h1, h2, h3]
theorem pFind_of {more n : Int} (h : fit more n = true) : pFind more = some n := by
 obtain ⟨h1, h2, h3⟩ := fit_in h
 have hv := vsize_cases n
 unfold pFind
 by_cases ha : fit more (more - 2) = true
 ·rw [if_pos ha]
  obtain ⟨h4, h5, h6⟩ := fit_in ha
  have hv2 := vsize_cases (more - 2)
  exact congrArg some (by omega)
 ·rw [if_neg ha]
  have : n = more - 3 := by
   rcases hv with hv | hv | hv | hv | hv
   ·omega
   ·exact absurd h (by rw [show n = more - 2 by omega]; exact ha)
   ·omega
   ·omega
   ·omega
  subst this
  rw [if_pos h]
theorem pFind_in {more n : Int} (h : pFind more = some n) : fit more n = true := by
 unfold pFind at h
 split at h
 ·rename_i hx; cases h; exact hx
 ·split at h
  ·rename_i hx; cases h; exact hx
  ·cases h
/-- Frames of just so many bytes together. -/
def pPad (size : Int) (l : List Fr) : Option (List Fr) :=
 if wrOk l = true then (if ((wBs l).length : Int) = size then some l else if l.length = 16 then none else (pFind (size - (wBs l).length)).map fun n => l ++ [padN n]) else none
theorem pad_len {n : Int} (h1 : 1 ≤ n) (h2 : n ≤ 2048) : ((fbytes (padN n)).length : Int) = 1 + (vsize n : Int) + n := by
 rw [padBytes, List.flatMap_cons, List.flatMap_cons, List.flatMap_nil, List.append_nil, List.length_append, List.length_append, vb_len, vb_len, zeros_len]
 have : vsize 0 = 1 := by decide
 rw [this]
 omega
def hdB (s n : Int) : List Int := if hOk s n = true then hB s n else []
def hdE (s n : Int) : Int := if hOk s n = true then 0 else 30
theorem hd_no {s n : Int} (h : hOk s n = false) : hdB s n = [] ∧ hdE s n = 30 := by
 unfold hdB hdE
 rw [h]
 exact ⟨rfl, rfl⟩
theorem hd_yes {s n : Int} (h : hOk s n = true) : hdB s n = hB s n ∧ hdE s n = 0 := by
 unfold hdB hdE
 rw [h]
 exact ⟨rfl, rfl⟩
end Go.Proofs.Ythieegnhjoehbaa
/- What stands ahead of a packet: Head and Headed, the document's too, walked. -/
namespace Go.Proofs.Ythieegnhjoehbaa
open Go.RowKit Go.Vc
set_option linter.unusedVariables false
def HdM (s n : Int) (u : Value) (m' : Mem) : Prop := ∃ base len cap e, u = .tuple #[.slice base len cap, .int .i64 (hdE s n)] ∧ m' = [e] ∧ SlIs ty5 5 e base len cap (row (hdB s n))
theorem head_any (s n : Int) (w : World) : Makes tb 27 [.int .i64 s, .int .i64 n] w (HdM s n) := by
 refine makes_of (fn := Try.f27) Try.func27 rfl Try.ntmps27 rfl ?_
 repeat refine c_seq ?_
 refine c_region ?_
 refine qa rfl rfl ?_
 refine step_hole ?_
 refine qa rfl rfl ?_
 refine step_nil ?_
 repeat refine c_seq ?_
 refine c_meet [(0, .int .i64 s), (1, .int .i64 n), (13, .bool (!(s == 0 || s == 1)))] [hole] ?_ ?_
 ·repeat refine c_seq ?_
  refine c_region ?_
  refine qm rfl rfl ?_
  refine step_pure rfl (pure_neq rfl rfl) ?_
  refine qm rfl rfl ?_
  refine step_split (t := 10) rfl (fun h10 => ?_) (fun h10 => ?_)
  ·refine qm rfl rfl ?_
   refine step_pure rfl (pure_neq rfl rfl) ?_
   refine step_pure rfl (pure_pick_yes rfl rfl) ?_
   refine step_nil ?_
   refine less_of ⟨rfl, rfl, ?_, trivial⟩ rfl
   refine congrArg some (congrArg Value.bool ?_)
   simp_all [bne]
  ·refine qp rfl rfl rfl ?_
   refine qp rfl rfl rfl ?_
   refine step_pure rfl (pure_pick_no rfl rfl) ?_
   refine step_nil ?_
   refine less_of ⟨rfl, rfl, ?_, trivial⟩ rfl
   refine congrArg some (congrArg Value.bool ?_)
   simp_all [bne]
 repeat refine c_seq ?_
 refine c_cond rfl (fun h => ?_) (fun h => ?_)
 ·have hno : hOk s n = false := by unfold hOk; simp at h; simp [h]
  obtain ⟨h1, h2⟩ := hd_no hno
  unfold HdM
  rw [h1, h2]
  repeat refine c_seq ?_
  refine c_region ?_
  refine qa rfl rfl ?_
  refine qa rfl rfl ?_
  refine step_nil ?_
  exact c_ret ⟨_, res_tmp2 Try.results27 rfl rfl, _, List.Sublist.refl _, none, 0, 0, hole, rfl, rfl, sl_nil _ _ (by decide)⟩
 have hs : s = 0 ∨ s = 1 := by simp at h; omega
 clear h
 have hw : IntKind.u8.wrap s = s := by rcases hs with rfl | rfl <;> rfl
 refine c_skip ?_
 repeat refine c_seq ?_
 refine c_region ?_
 refine qm rfl rfl ?_
 refine step_as rfl (pure_conv rfl rfl rfl rfl) (show _ = Value.int .u8 s from by rw [hw]) ?_
 refine step_buildSlice rfl rfl rfl rfl elem5 (by decide) (by decide) (fill_one .u8 _ rfl) (fun b17 => ?_)
 refine qm rfl rfl ?_
 have hs1 := sl_built ty5 5 b17 (row [s]) 1 rfl
 refine step_makes rfl fun49 rfl (fun w' hh kp => put_any [s] n _ w' (by have := (slis_mem hs1 (fun _ => .head _) hh).slv; exact this) (by simp)) ?_
 rintro u m' ⟨base2, len2, cap2, e2, rfl, rfl, hs2⟩
 refine qm rfl rfl ?_
 refine qx rfl rfl rfl ?_
 refine qx rfl rfl rfl ?_
 refine qa rfl rfl ?_
 refine qa rfl rfl ?_
 refine step_nil ?_
 repeat refine c_seq ?_
 refine c_region ?_
 refine qm rfl rfl ?_
 refine step_pure rfl (pure_neq rfl rfl) ?_
 refine step_nil ?_
 repeat refine c_seq ?_
 refine c_cond rfl (fun h => ?_) (fun h => ?_)
 ·have h0 : vsize n = 0 := by
   apply Classical.byContradiction
   intro h2
   rw [if_neg h2] at h
   cases h
  have hno : hOk s n = false := by unfold hOk; simp [h0]
  obtain ⟨h1, h2⟩ := hd_no hno
  unfold HdM
  rw [h1, h2]
  repeat refine c_seq ?_
  refine c_region ?_
  refine qa rfl rfl ?_
  refine step_hole ?_
  refine qa rfl rfl ?_
  refine step_nil ?_
  exact c_ret ⟨_, res_tmp2 Try.results27 rfl rfl, [hole], (by repeat (first | exact List.Sublist.refl _ | exact List.nil_sublist _ | apply List.Sublist.cons_cons | apply List.Sublist.cons)), none, 0, 0, hole, rfl, rfl, sl_nil _ _ (by decide)⟩
 ·have h0 : vsize n ≠ 0 := by
   intro h2
   rw [if_pos h2] at h
   cases h
  have hok : hOk s n = true := by unfold hOk; simpa [h0] using hs
  obtain ⟨h1, h2⟩ := hd_yes hok
  unfold HdM
  rw [h1, h2]
  rw [if_neg h0] at hs2
  refine c_skip ?_
  repeat refine c_seq ?_
  refine c_region ?_
  refine qm rfl rfl ?_
  refine qa rfl rfl ?_
  refine qa rfl rfl ?_
  refine step_nil ?_
  exact c_ret ⟨_, res_tmp2 Try.results27 rfl rfl, [e2], (by repeat (first | exact List.Sublist.refl _ | exact List.nil_sublist _ | apply List.Sublist.cons_cons | apply List.Sublist.cons)), base2, len2, cap2, e2, rfl, rfl, hs2⟩
theorem rhead_any (s n : Int) (w : World) : Makes tb 22 [.int .i64 s, .int .i64 n] w (HdM s n) := by
 refine makes_of (fn := Try.f22) Try.func22 rfl Try.ntmps22 rfl ?_
 repeat refine c_seq ?_
 refine c_region ?_
 refine qa rfl rfl ?_
 refine step_hole ?_
 refine qa rfl rfl ?_
 refine step_nil ?_
 repeat refine c_seq ?_
 refine c_meet [(0, .int .i64 s), (1, .int .i64 n), (16, .bool (!hOk s n))] [hole] ?_ ?_
 ·repeat refine c_seq ?_
  refine c_region ?_
  refine qm rfl rfl ?_
  refine step_pure rfl (pure_lss rfl rfl) ?_
  refine qm rfl rfl ?_
  refine step_split (t := 8) rfl (fun h8 => ?_) (fun h8 => ?_)
  ·refine qp rfl rfl rfl ?_
   refine qp rfl rfl rfl ?_
   refine step_pure rfl (pure_pick_yes rfl rfl) ?_
   refine qm rfl rfl ?_
   refine qp rfl rfl rfl ?_
   refine qp rfl rfl rfl ?_
   refine qp rfl rfl rfl ?_
   refine step_pure rfl (pure_pick_yes rfl rfl) ?_
   refine step_nil ?_
   refine less_of ⟨rfl, rfl, ?_, trivial⟩ rfl
   refine congrArg some (congrArg Value.bool ?_)
   unfold hOk
   rw [Bool.eq_iff_iff]
   simp_all <;> omega
  ·refine qm rfl rfl ?_
   refine step_pure rfl (pure_gtr rfl rfl) ?_
   refine step_pure rfl (pure_pick_no rfl rfl) ?_
   refine qm rfl rfl ?_
   refine step_split (t := 12) rfl (fun h12 => ?_) (fun h12 => ?_)
   ·refine qp rfl rfl rfl ?_
    refine qp rfl rfl rfl ?_
    refine qp rfl rfl rfl ?_
    refine step_pure rfl (pure_pick_yes rfl rfl) ?_
    refine step_nil ?_
    refine less_of ⟨rfl, rfl, ?_, trivial⟩ rfl
    refine congrArg some (congrArg Value.bool ?_)
    unfold hOk
    rw [Bool.eq_iff_iff]
    simp_all <;> omega
   ·refine qm rfl rfl ?_
    refine step_gives rfl fun46 rfl (fun w _ _ => rsize_any n w) ?_
    refine step_pure rfl (pure_eql rfl rfl) ?_
    refine step_pure rfl (pure_pick_no rfl rfl) ?_
    refine step_nil ?_
    refine less_of ⟨rfl, rfl, ?_, trivial⟩ rfl
    refine congrArg some (congrArg Value.bool ?_)
    unfold hOk
    rw [Bool.eq_iff_iff]
    simp_all <;> omega
 repeat refine c_seq ?_
 refine c_cond rfl (fun h => ?_) (fun h => ?_)
 ·have hno : hOk s n = false := by simpa using h
  obtain ⟨h1, h2⟩ := hd_no hno
  unfold HdM
  rw [h1, h2]
  repeat refine c_seq ?_
  refine c_region ?_
  refine qa rfl rfl ?_
  refine qa rfl rfl ?_
  refine step_nil ?_
  exact c_ret ⟨_, res_tmp2 Try.results22 rfl rfl, _, List.Sublist.refl _, none, 0, 0, hole, rfl, rfl, sl_nil _ _ (by decide)⟩
 have hok : hOk s n = true := by simpa using h
 clear h
 have hs := (hOk_in hok).1
 obtain ⟨h1, h2⟩ := hd_yes hok
 unfold HdM
 rw [h1, h2]
 have hw : IntKind.u8.wrap s = s := by rcases hs with rfl | rfl <;> rfl
 refine c_skip ?_
 repeat refine c_seq ?_
 refine c_region ?_
 refine qm rfl rfl ?_
 refine step_as rfl (pure_conv rfl rfl rfl rfl) (show _ = Value.int .u8 s from by rw [hw]) ?_
 refine step_buildSlice rfl rfl rfl rfl elem5 (by decide) (by decide) (fill_one .u8 _ rfl) (fun b19 => ?_)
 refine qm rfl rfl ?_
 have hs1 := sl_built ty5 5 b19 (row [s]) 1 rfl
 refine step_makes rfl fun47 rfl (fun w' hh kp => rbytes_any n w') ?_
 rintro u m' ⟨base2, cap2, e2, rfl, rfl, hs2⟩
 have hv8 := vsize_cases n
 refine step_append 1 rfl rfl hs1 rfl rfl rfl rfl rfl elem5 rfl (by decide) rfl rfl hs2.len (src_own (j := 0) hs2 rfl) (row_one _) (by omega) (by omega) (fun base3 cap3 e3 hs3 => ?_)
 rw [row_app] at hs3
 refine qa rfl rfl ?_
 refine qa rfl rfl ?_
 refine step_nil ?_
 exact c_ret ⟨_, res_tmp2 Try.results22 rfl rfl, [e3], (by repeat (first | exact List.Sublist.refl _ | exact List.nil_sublist _ | apply List.Sublist.cons_cons | apply List.Sublist.cons)), base3, _, cap3, e3, rfl, rfl, hs3⟩
/-! what stands ahead, read -/
def hdS (b : List Int) : Int := ((hdd b).map (·.1)).getD 0
def hdN (b : List Int) : Int := ((hdd b).map (·.2.1)).getD 0
def hdK (b : List Int) : Nat := ((hdd b).map (·.2.2)).getD 0
def hdX (b : List Int) : Int := if (hdd b).isSome = true then 0 else 30
def HdV (b : List Int) : Value := .tuple #[.int .i64 (hdS b), .int .i64 (hdN b), .int .i64 (hdK b), .int .i64 (hdX b)]
theorem hdv_no {b : List Int} (h : hdd b = none) : HdV b = .tuple #[.int .i64 0, .int .i64 0, .int .i64 0, .int .i64 30] := by
 unfold HdV hdS hdN hdK hdX
 rw [h]
 rfl
theorem hdv_yes {b : List Int} {s n : Int} {k : Nat} (h : hdd b = some (s, n, k)) : HdV b = .tuple #[.int .i64 s, .int .i64 n, .int .i64 k, .int .i64 0] := by
 unfold HdV hdS hdN hdK hdX
 rw [h]
 rfl
theorem res_tmp4 {B : Tb} {rs : Rs} {m : Mem} {fn : Func} {t u s r : Tmp} {v x y z : Value} (h : fn.results = #[.tmp t, .tmp u, .tmp s, .tmp r]) (hv : Vc.look rs t = some v) (hx : Vc.look rs u = some x) (hy : Vc.look rs s = some y) (hz : Vc.look rs r = some z) :
  ResIs B fn rs m (.tuple #[v, x, y, z]) := by
 refine ⟨fun a w hr hh => ?_⟩
 have g1 := hr _ _ hv
 have g2 := hr _ _ hx
 have g3 := hr _ _ hy
 have g4 := hr _ _ hz
 simp [results, h, Array.getD_eq_getD_getElem?, g1, g2, g3, g4]
theorem gt_parts (b : List Int) : gt b = if gE b = 0 then some (gN b, gS b) else none := by
 unfold gE gN gS
 cases gt b <;> rfl
theorem hdd_cons (x : Int) (r : List Int) : hdd (x :: r) = if x ≤ 1 then (if gE r = 0 then some (x, gN r, gS r + 1) else none) else none := by
 show (if x ≤ 1 then (gt r).map fun y => (x, y.1, y.2 + 1) else none) = _
 rw [gt_parts r]
 split
 ·split <;> rfl
 ·rfl
set_option maxHeartbeats 1000000 in
theorem headed_any (b : List Int) (v : Value) (w : World) (hv : SlV w v (row b)) (hb : Bytes b) (hl : b.length ≤ 140737488355328) : Gives tb 37 [v] w (HdV b) := by
 obtain ⟨base0, cap0, rfl, hc⟩ := hv.is
 rw [row_len] at hv ⊢
 have hroom := hv.room _ _ _ rfl
 refine gives_of (fn := Try.f37) Try.func37 rfl Try.ntmps37 rfl ?_
 repeat refine c_seq ?_
 refine c_region ?_
 refine qa rfl rfl ?_
 refine qa rfl rfl ?_
 refine qa rfl rfl ?_
 refine qa rfl rfl ?_
 refine step_nil ?_
 cases b with
 | nil =>
  rw [hdv_no (b := []) rfl]
  repeat refine c_seq ?_
  refine c_region ?_
  refine qm rfl rfl ?_
  refine step_pure rfl (pure_len_slice rfl rfl rfl) ?_
  refine step_pure rfl (pure_eql rfl rfl) ?_
  refine qm rfl rfl ?_
  refine qp rfl rfl rfl ?_
  refine qp rfl rfl rfl ?_
  refine qp rfl rfl rfl ?_
  refine qp rfl rfl rfl ?_
  refine qp rfl rfl rfl ?_
  refine step_pure rfl (pure_pick_yes rfl rfl) ?_
  refine step_nil ?_
  repeat refine c_seq ?_
  refine c_cond_yes rfl rfl ?_
  repeat refine c_seq ?_
  refine c_region ?_
  refine qa rfl rfl ?_
  refine qa rfl rfl ?_
  refine qa rfl rfl ?_
  refine qa rfl rfl ?_
  refine step_nil ?_
  exact c_ret ⟨_, res_tmp4 Try.results37 rfl rfl rfl rfl, rfl⟩
 | cons x r =>
 obtain ⟨p, rfl, hp⟩ := hc (by simp [ints])
 have hx := hb x (.head _)
 have hr : Bytes r := fun y hy => hb y (.tail _ hy)
 have hwx : IntKind.i64.wrap x = x := wrap_i64 (by omega) (by omega)
 have hcell0 : w.cell? (p.add 0) = some (.int .u8 x) := hp 0 _ rfl
 have hne : ((((x :: r).length : Nat) : Int) == 0) = false := by rw [beq_eq_false_iff_ne, List.length_cons]; omega
 repeat refine c_seq ?_
 refine c_region ?_
 refine qm rfl rfl ?_
 refine step_pure rfl (pure_len_slice rfl rfl rfl) ?_
 refine step_as rfl (pure_eql rfl rfl) (show _ = Value.bool false from by rw [hne]) ?_
 refine qm rfl rfl ?_
 refine qm rfl rfl ?_
 refine step_pure rfl (pure_indexAddr_at rfl rfl rfl rfl rfl (by decide) (by simp)) ?_
 refine step_pure rfl (pure_view_at rfl rfl rfl hcell0 List.not_mem_nil) ?_
 refine step_as rfl (pure_conv rfl rfl rfl rfl) (show _ = Value.int .i64 x from by rw [hwx]) ?_
 refine step_pure rfl (pure_gtr rfl rfl) ?_
 refine step_pure rfl (pure_pick_no rfl rfl) ?_
 refine step_nil ?_
 repeat refine c_seq ?_
 refine c_cond rfl (fun h => ?_) (fun h => ?_)
 ·have hx1 : ¬ x ≤ 1 := by have := of_decide_eq_true h; omega
  rw [hdv_no (by rw [hdd_cons, if_neg hx1])]
  repeat refine c_seq ?_
  refine c_region ?_
  refine qa rfl rfl ?_
  refine qa rfl rfl ?_
  refine qa rfl rfl ?_
  refine qa rfl rfl ?_
  refine step_nil ?_
  exact c_ret ⟨_, res_tmp4 Try.results37 rfl rfl rfl rfl, rfl⟩
 have hx1 : x ≤ 1 := by have := of_decide_eq_false h; omega
 clear h
 have hd := hdd_cons x r
 rw [if_pos hx1] at hd
 have hsub : SlV w (subS (some p) cap0 1 1 (x :: r).length) (row r) := by
  have := slv_sub (lo := 1) (hi := (x :: r).length) hv (by simp) (by omega)
  rw [ints_sub] at this
  simpa [List.take_of_length_le] using this
 have hget := fun w' (kp : Keep w w' []) => get_any r _ w' (slv_keep0 hsub kp) hr (by rw [List.length_cons] at hl; omega)
 have hgS := gS_le r hr
 rw [List.length_cons] at hl
 refine c_skip ?_
 repeat refine c_seq ?_
 refine c_region ?_
 refine qm rfl rfl ?_
 refine step_as rfl (pure_sub_lo rfl rfl rfl rfl rfl (by decide) (by simp only [List.length_cons]; omega)) (show _ = subS (some p) cap0 1 1 (x :: r).length from rfl) ?_
 refine step_gives rfl fun56 rfl (fun w' _ kp => hget w' kp) ?_
 refine qm rfl rfl ?_
 refine qx rfl rfl rfl ?_
 refine qx rfl rfl rfl ?_
 refine qx rfl rfl rfl ?_
 refine qa rfl rfl ?_
 refine qa rfl rfl ?_
 refine qa rfl rfl ?_
 refine step_nil ?_
 repeat refine c_seq ?_
 refine c_region ?_
 refine qm rfl rfl ?_
 refine step_pure rfl (pure_neq rfl rfl) ?_
 refine step_nil ?_
 repeat refine c_seq ?_
 refine c_cond rfl (fun h => ?_) (fun h => ?_)
 ·rw [hdv_no (by rw [hd, if_neg (by simpa using h)])]
  repeat refine c_seq ?_
  refine c_region ?_
  refine qa rfl rfl ?_
  refine qa rfl rfl ?_
  refine qa rfl rfl ?_
  refine qa rfl rfl ?_
  refine step_nil ?_
  exact c_ret ⟨_, res_tmp4 Try.results37 rfl rfl rfl rfl, rfl⟩
 ·rw [hdv_yes (by rw [hd, if_pos (by simpa using h)])]
  refine c_skip ?_
  repeat refine c_seq ?_
  refine c_region ?_
  refine qm rfl rfl ?_
  refine step_pure rfl (pure_indexAddr_at rfl rfl rfl rfl rfl (by decide) (by simp)) ?_
  refine step_pure rfl (pure_view_at rfl rfl rfl hcell0 List.not_mem_nil) ?_
  refine step_as rfl (pure_conv rfl rfl rfl rfl) (show _ = Value.int .i64 x from by rw [hwx]) ?_
  refine qm rfl rfl ?_
  refine qm rfl rfl ?_
  refine step_pure rfl (pure_add64 rfl rfl (by omega) (by omega)) ?_
  refine qa rfl rfl ?_
  refine qa rfl rfl ?_
  refine qa rfl rfl ?_
  refine qa rfl rfl ?_
  refine step_nil ?_
  exact c_ret ⟨_, res_tmp4 Try.results37 rfl rfl rfl rfl, rfl⟩
set_option maxHeartbeats 1000000 in
theorem rheaded_any (b : List Int) (v : Value) (w : World) (hv : SlV w v (row b)) (hb : Bytes b) (hl : b.length ≤ 140737488355328) : Gives tb 40 [v] w (HdV b) := by
 obtain ⟨base0, cap0, rfl, hc⟩ := hv.is
 rw [row_len] at hv ⊢
 have hroom := hv.room _ _ _ rfl
 refine gives_of (fn := Try.f40) Try.func40 rfl Try.ntmps40 rfl ?_
 repeat refine c_seq ?_
 refine c_region ?_
 refine qa rfl rfl ?_
 refine qa rfl rfl ?_
 refine qa rfl rfl ?_
 refine qa rfl rfl ?_
 refine step_nil ?_
 cases b with
 | nil =>
  rw [hdv_no (b := []) rfl]
  repeat refine c_seq ?_
  refine c_region ?_
  refine qm rfl rfl ?_
  refine step_pure rfl (pure_len_slice rfl rfl rfl) ?_
  refine step_pure rfl (pure_eql rfl rfl) ?_
  refine qm rfl rfl ?_
  refine qp rfl rfl rfl ?_
  refine qp rfl rfl rfl ?_
  refine qp rfl rfl rfl ?_
  refine qp rfl rfl rfl ?_
  refine step_pure rfl (pure_pick_yes rfl rfl) ?_
  refine step_nil ?_
  repeat refine c_seq ?_
  refine c_cond_yes rfl rfl ?_
  repeat refine c_seq ?_
  refine c_region ?_
  refine qa rfl rfl ?_
  refine qa rfl rfl ?_
  refine qa rfl rfl ?_
  refine qa rfl rfl ?_
  refine step_nil ?_
  exact c_ret ⟨_, res_tmp4 Try.results40 rfl rfl rfl rfl, rfl⟩
 | cons x r =>
 obtain ⟨p, rfl, hp⟩ := hc (by simp [ints])
 have hx := hb x (.head _)
 have hr : Bytes r := fun y hy => hb y (.tail _ hy)
 have hwx : IntKind.i64.wrap x = x := wrap_i64 (by omega) (by omega)
 have hcell0 : w.cell? (p.add 0) = some (.int .u8 x) := hp 0 _ rfl
 have hne : ((((x :: r).length : Nat) : Int) == 0) = false := by rw [beq_eq_false_iff_ne, List.length_cons]; omega
 repeat refine c_seq ?_
 refine c_region ?_
 refine qm rfl rfl ?_
 refine step_pure rfl (pure_len_slice rfl rfl rfl) ?_
 refine step_as rfl (pure_eql rfl rfl) (show _ = Value.bool false from by rw [hne]) ?_
 refine qm rfl rfl ?_
 refine qm rfl rfl ?_
 refine step_pure rfl (pure_indexAddr_at rfl rfl rfl rfl rfl (by decide) (by simp)) ?_
 refine step_pure rfl (pure_view_at rfl rfl rfl hcell0 List.not_mem_nil) ?_
 refine step_pure rfl (pure_gtr rfl rfl) ?_
 refine step_pure rfl (pure_pick_no rfl rfl) ?_
 refine step_nil ?_
 repeat refine c_seq ?_
 refine c_cond rfl (fun h => ?_) (fun h => ?_)
 ·have hx1 : ¬ x ≤ 1 := by have := of_decide_eq_true h; omega
  rw [hdv_no (by rw [hdd_cons, if_neg hx1])]
  repeat refine c_seq ?_
  refine c_region ?_
  refine qa rfl rfl ?_
  refine qa rfl rfl ?_
  refine qa rfl rfl ?_
  refine qa rfl rfl ?_
  refine step_nil ?_
  exact c_ret ⟨_, res_tmp4 Try.results40 rfl rfl rfl rfl, rfl⟩
 have hx1 : x ≤ 1 := by have := of_decide_eq_false h; omega
 clear h
 have hd := hdd_cons x r
 rw [if_pos hx1] at hd
 have hsub : SlV w (subS (some p) cap0 1 1 (x :: r).length) (row r) := by
  have := slv_sub (lo := 1) (hi := (x :: r).length) hv (by simp) (by omega)
  rw [ints_sub] at this
  simpa [List.take_of_length_le] using this
 have hget := fun w' (kp : Keep w w' []) => rget_any r _ w' (slv_keep0 hsub kp) hr (by rw [List.length_cons] at hl; omega)
 have hgS := gS_le r hr
 rw [List.length_cons] at hl
 refine c_skip ?_
 repeat refine c_seq ?_
 refine c_region ?_
 refine qm rfl rfl ?_
 refine step_as rfl (pure_sub_lo rfl rfl rfl rfl rfl (by decide) (by simp only [List.length_cons]; omega)) (show _ = subS (some p) cap0 1 1 (x :: r).length from rfl) ?_
 refine step_gives rfl fun58 rfl (fun w' _ kp => hget w' kp) ?_
 refine qm rfl rfl ?_
 refine qx rfl rfl rfl ?_
 refine qx rfl rfl rfl ?_
 refine qx rfl rfl rfl ?_
 refine qa rfl rfl ?_
 refine qa rfl rfl ?_
 refine qa rfl rfl ?_
 refine step_nil ?_
 repeat refine c_seq ?_
 refine c_region ?_
 refine qm rfl rfl ?_
 refine step_pure rfl (pure_neq rfl rfl) ?_
 refine step_nil ?_
 repeat refine c_seq ?_
 refine c_cond rfl (fun h => ?_) (fun h => ?_)
 ·rw [hdv_no (by rw [hd, if_neg (by simpa using h)])]
  repeat refine c_seq ?_
  refine c_region ?_
  refine qa rfl rfl ?_
  refine qa rfl rfl ?_
  refine qa rfl rfl ?_
  refine qa rfl rfl ?_
  refine step_nil ?_
  exact c_ret ⟨_, res_tmp4 Try.results40 rfl rfl rfl rfl, rfl⟩
 ·rw [hdv_yes (by rw [hd, if_pos (by simpa using h)])]
  refine c_skip ?_
  repeat refine c_seq ?_
  refine c_region ?_
  refine qm rfl rfl ?_
  refine step_pure rfl (pure_indexAddr_at rfl rfl rfl rfl rfl (by decide) (by simp)) ?_
  refine step_pure rfl (pure_view_at rfl rfl rfl hcell0 List.not_mem_nil) ?_
  refine step_as rfl (pure_conv rfl rfl rfl rfl) (show _ = Value.int .i64 x from by rw [hwx]) ?_
  refine qm rfl rfl ?_
  refine qm rfl rfl ?_
  refine step_pure rfl (pure_add64 rfl rfl (by omega) (by omega)) ?_
  refine qa rfl rfl ?_
  refine qa rfl rfl ?_
  refine qa rfl rfl ?_
  refine qa rfl rfl ?_
  refine step_nil ?_
  exact c_ret ⟨_, res_tmp4 Try.results40 rfl rfl rfl rfl, rfl⟩
end Go.Proofs.Ythieegnhjoehbaa
/- A packet's bytes: Write and Check, the document's too, walked. -/
namespace Go.Proofs.Ythieegnhjoehbaa
open Go.RowKit Go.Vc
set_option linter.unusedVariables false
/-- A packet's cells. -/
def PkC (C : Addr → Value → Prop) (p : Pk) (cs : List Value) : Prop := ∃ fv, cs = [.int .i64 p.side, .int .i64 p.num, fv] ∧ FrsC C fv p.fs
theorem PkC.mono {C C' : Addr → Value → Prop} {p : Pk} {cs : List Value} (h : PkC C p cs) (hC : ∀ a x, C a x → C' a x) : PkC C' p cs := by
 obtain ⟨fv, rfl, h⟩ := h
 exact ⟨fv, rfl, h.mono hC⟩
def pE (p : Pk) : Int := if pOk p = true then 0 else 30
def PwR (p : Pk) (u : Value) (C : Addr → Value → Prop) : Prop := ∃ v, u = .tuple #[v, .int .i64 (pE p)] ∧ SlC C 1 v (pB p).length (row (pB p))
theorem pwR_mono (p : Pk) : ∀ v (C C' : Addr → Value → Prop), (∀ a x, C a x → C' a x) → PwR p v C → PwR p v C' := by
 rintro u C C' hC ⟨v, rfl, hs⟩
 exact ⟨v, rfl, hs.mono hC⟩
theorem pwR_no {p : Pk} {C : Addr → Value → Prop} (h : pOk p = false) : PwR p (.tuple #[.slice none 0 0, .int .i64 30]) C := by
 refine ⟨_, by unfold pE; rw [if_neg (by rw [h]; decide)], ?_⟩
 unfold pB
 rw [if_neg (by rw [h]; decide)]
 exact slc_nil
theorem pE_yes {p : Pk} (h : pOk p = true) : pE p = 0 := by unfold pE; rw [if_pos h]
theorem pE_no {p : Pk} (h : pOk p = false) : pE p = 30 := by unfold pE; rw [h]; rfl
theorem pE_is (p : Pk) : (pE p == 0) = pOk p := by unfold pE; cases pOk p <;> rfl
theorem pOk_of {p : Pk} (h1 : hOk p.side p.num = true) (h2 : wrOk p.fs = true) (h3 : p.fs.length ≠ 0) : pOk p = true := by
 unfold pOk
 rw [h1, h2]
 simpa using h3
theorem pB_yes {p : Pk} (h : pOk p = true) : pB p = hB p.side p.num ++ wBs p.fs := if_pos h
set_option maxHeartbeats 1000000 in
theorem pwrite_P (p : Pk) (cs : List Value) (w : World) {Z : Nat → Prop} (hZ : ∀ b, w.heap.size ≤ b → Z b) (hp : PkC (At w) p cs) (hbig : ∀ f ∈ p.fs, f.data.length ≤ maxLen) : GivesP tb 35 [.agg cs.toArray] w Z (PwR p) := by
 obtain ⟨fv, rfl, hv⟩ := hp
 have hv : FrsC (Cel ⟨w, [], []⟩) fv p.fs := hv.mono fun p x h => ⟨h, by simp⟩
 obtain ⟨fb, fc, rfl, hfc⟩ := hv.slice
 refine givesP_of (fn := Try.f35) Try.func35 rfl Try.ntmps35 rfl hZ (pwR_mono p) (fun on => ?_)
 repeat refine s_seqs ?_
 refine s_reg ?_
 refine step_box_agg rfl rfl (fun b1 => ?_)
 refine qa rfl rfl ?_
 refine qa rfl rfl ?_
 refine Vc.step_end (fun a w ok => ?_)
 (refine WPs.run ?_ a w ok; clear ok w a)
 repeat refine s_seqs ?_
 refine s_reg ?_
 refine step_pure rfl (pure_fieldAddr rfl rfl rfl rfl rfl (by decide)) ?_
 refine step_pure rfl (pure_load (i := 0) rfl rfl rfl rfl rfl rfl) ?_
 refine step_pure rfl (pure_fieldAddr rfl rfl rfl rfl rfl (by decide)) ?_
 refine step_pure rfl (pure_load (i := 0) rfl rfl rfl rfl rfl rfl) ?_
 refine step_makes rfl fun27 rfl (fun w' hh kp => head_any p.side p.num w') ?_
 rintro u m' ⟨base2, len2, cap2, e2, rfl, rfl, hs2⟩
 refine qm rfl rfl ?_
 refine qx rfl rfl rfl ?_
 refine qx rfl rfl rfl ?_
 refine qa rfl rfl ?_
 refine qa rfl rfl ?_
 refine Vc.step_end (fun a w ok => ?_)
 (refine WPs.run ?_ a w ok; clear ok w a)
 obtain rfl := sl_len8 hs2
 repeat refine s_seqs ?_
 refine s_meet [(1, .pointer (some ⟨b1, 0, none⟩)), (4, .slice base2 (hdB p.side p.num).length cap2), (22, .bool (!(hOk p.side p.num && p.fs.length != 0)))] [e2, ⟨b1, [.int .i64 p.side, .int .i64 p.num, .slice fb p.fs.length fc], 25⟩] ?_ (fun a w ok => WPs.run ?_ a w ok)
 ·clear hs2 hv hbig
  unfold hdE
  generalize hOk p.side p.num = hk at *
  generalize p.fs.length = n at *
  repeat refine c_seq ?_
  refine c_region ?_
  refine qm rfl rfl ?_
  refine step_pure rfl (pure_neq rfl rfl) ?_
  refine qm rfl rfl ?_
  refine step_split (t := 17) rfl (fun h17 => ?_) (fun h17 => ?_)
  ·refine qp rfl rfl rfl ?_
   refine qp rfl rfl rfl ?_
   refine qp rfl rfl rfl ?_
   refine qp rfl rfl rfl ?_
   refine step_pure rfl (pure_pick_yes rfl rfl) ?_
   refine step_nil ?_
   refine less_sub ⟨rfl, rfl, ?_, trivial⟩ (by repeat (first | exact List.Sublist.refl _ | exact List.nil_sublist _ | apply List.Sublist.cons_cons | apply List.Sublist.cons))
   refine congrArg some (congrArg Value.bool ?_)
   rw [Bool.eq_iff_iff]
   cases hk <;> simp_all
  ·refine step_pure rfl (pure_fieldAddr rfl rfl rfl rfl rfl (by decide)) ?_
   refine step_pure rfl (pure_load (i := 1) rfl rfl rfl rfl rfl rfl) ?_
   refine step_pure rfl (pure_len_slice rfl rfl rfl) ?_
   refine step_pure rfl (pure_eql rfl rfl) ?_
   refine step_pure rfl (pure_pick_no rfl rfl) ?_
   refine step_nil ?_
   refine less_sub ⟨rfl, rfl, ?_, trivial⟩ (by repeat (first | exact List.Sublist.refl _ | exact List.nil_sublist _ | apply List.Sublist.cons_cons | apply List.Sublist.cons))
   refine congrArg some (congrArg Value.bool ?_)
   rw [Bool.eq_iff_iff]
   cases hk <;> simp_all
 repeat refine s_seqs ?_
 refine s_cond rfl (fun h => ?_) (fun h => ?_)
 ·have hno : pOk p = false := by
   unfold pOk
   simp at h
   rcases h with h | h <;> simp [h]
  repeat refine s_seqs ?_
  refine s_reg ?_
  refine qa rfl rfl ?_
  refine qa rfl rfl ?_
  refine Vc.step_end (fun a w ok => ?_)
  (refine WPs.run ?_ a w ok; clear ok w a)
  exact s_ret fun a w ok => ends_givesP on (.inr rfl) ok (res_tmp2 Try.results35 rfl rfl) (pwR_mono p) (pwR_no hno)
 have hk : hOk p.side p.num = true ∧ p.fs.length ≠ 0 := by simpa using h
 clear h
 rw [(hd_yes hk.1).1] at hs2
 rw [(hd_yes hk.1).1]
 have hhl := hB_len p.side p.num
 have hv8 := vsize_cases p.num
 have hwl := wBs_le p.fs
 refine s_skip fun a w ok => WPs.run ?_ a w ok
 clear ok w a
 repeat refine s_seqs ?_
 refine s_reg ?_
 refine step_pure rfl (pure_fieldAddr rfl rfl rfl rfl rfl (by decide)) ?_
 refine step_pure rfl (pure_load (i := 1) rfl rfl rfl rfl rfl rfl) ?_
 refine step_givesP on.sc rfl fun21 rfl (fun w' Z' hh kp hZ hC => write_P p.fs _ w' hZ (hv.mono fun p x h => h.now kp) hbig) ?_
 rintro u E1 g ⟨v3, rfl, hw⟩
 replace on := on.next g
 clear g hv
 refine qm rfl rfl ?_
 refine qx rfl rfl rfl ?_
 refine qx rfl rfl rfl ?_
 refine qa rfl rfl ?_
 refine qa rfl rfl ?_
 refine Vc.step_end (fun a w ok => ?_)
 (refine WPs.run ?_ a w ok; clear ok w a)
 repeat refine s_seqs ?_
 refine s_reg ?_
 refine qm rfl rfl ?_
 refine step_pure rfl (pure_neq rfl rfl) ?_
 refine Vc.step_end (fun a w ok => ?_)
 (refine WPs.run ?_ a w ok; clear ok w a)
 repeat refine s_seqs ?_
 refine s_cond rfl (fun h => ?_) (fun h => ?_)
 ·have hno : pOk p = false := by
   unfold pOk
   cases hk : wrOk p.fs with
   | false => simp
   | true => rw [hk] at h; cases h
  repeat refine s_seqs ?_
  refine s_reg ?_
  refine qa rfl rfl ?_
  refine qa rfl rfl ?_
  refine Vc.step_end (fun a w ok => ?_)
  (refine WPs.run ?_ a w ok; clear ok w a)
  exact s_ret fun a w ok => ends_givesP on (.inr rfl) ok (res_tmp2 Try.results35 rfl rfl) (pwR_mono p) (pwR_no hno)
 have hwk : wrOk p.fs = true := by
  cases hk : wrOk p.fs with
  | false => rw [hk] at h; cases h
  | true => rfl
 have hok := pOk_of hk.1 hwk hk.2
 clear h
 refine s_skip fun a w ok => WPs.run ?_ a w ok
 clear ok w a
 repeat refine s_seqs ?_
 refine s_reg ?_
 refine qm rfl rfl ?_
 refine qm rfl rfl ?_
 refine step_app8 0 rfl rfl hs2 rfl (SlC.mono hw Cz.cel) rfl (by omega) (fun base4 cap4 e4 hs4 => ?_)
 refine qa rfl rfl ?_
 refine qa rfl rfl ?_
 refine Vc.step_end (fun a w ok => ?_)
 (refine WPs.run ?_ a w ok; clear ok w a)
 refine s_let 0 rfl (fun E5 g5 hc => ?_)
 refine s_ret fun a w ok => ends_givesP (on.next g5) (.inr rfl) ok (res_tmp2 Try.results35 rfl rfl) (pwR_mono p) ⟨_, by rw [pE_yes hok], ?_⟩
 rw [pB_yes hok, List.length_append]
 exact slis_cz hs4 (hc _ on.sc)
theorem pcheck_any (p : Pk) (cs : List Value) (w : World) (hp : PkC (At w) p cs) (hbig : ∀ f ∈ p.fs, f.data.length ≤ maxLen) : Gives tb 26 [.agg cs.toArray] w (.int .i64 (pE p)) := by
 obtain ⟨fv, rfl, hv⟩ := hp
 have hv : FrsC (Cel ⟨w, [], []⟩) fv p.fs := hv.mono fun p x h => ⟨h, by simp⟩
 obtain ⟨fb, fc, rfl, hfc⟩ := hv.slice
 refine gives_ofk (fn := Try.f26) Try.func26 rfl Try.ntmps26 rfl (fun on => ?_)
 repeat refine s_seqs ?_
 refine s_reg ?_
 refine step_box_agg rfl rfl (fun b1 => ?_)
 refine qa rfl rfl ?_
 refine Vc.step_end (fun a w ok => ?_)
 (refine WPs.run ?_ a w ok; clear ok w a)
 repeat refine s_seqs ?_
 refine s_reg ?_
 refine step_pure rfl (pure_load_agg (i := 0) rfl rfl rfl rfl rfl (by show 3 ≤ 3; decide) rfl) ?_
 refine step_givesP on.sc rfl fun35 rfl (fun w' Z' hh kp hZ hC => pwrite_P p _ w' hZ ⟨_, rfl, hv.mono fun p x h => h.now kp⟩ hbig) ?_
 rintro u E1 g ⟨v3, rfl, hw⟩
 replace on := on.next g
 refine qm rfl rfl ?_
 refine qx rfl rfl rfl ?_
 refine qx rfl rfl rfl ?_
 refine qa rfl rfl ?_
 refine qa rfl rfl ?_
 refine Vc.step_end (fun a w ok => ?_)
 (refine WPs.run ?_ a w ok; clear ok w a)
 repeat refine s_seqs ?_
 refine s_reg ?_
 refine qm rfl rfl ?_
 refine qa rfl rfl ?_
 refine Vc.step_end (fun a w ok => ?_)
 (refine WPs.run ?_ a w ok; clear ok w a)
 exact s_ret fun a w ok => ends_k on (.inr rfl) ok (res_tmp Try.results26 rfl)
set_option maxHeartbeats 1000000 in
theorem rpcheck_any (p : Pk) (cs : List Value) (w : World) (hp : PkC (At w) p cs) (hbig : ∀ f ∈ p.fs, f.data.length ≤ maxLen) : Gives tb 30 [.agg cs.toArray] w (.int .i64 (pE p)) := by
 obtain ⟨fv, rfl, hv⟩ := hp
 have hv : FrsC (Cel ⟨w, [], []⟩) fv p.fs := hv.mono fun p x h => ⟨h, by simp⟩
 obtain ⟨fb, fc, rfl, hfc⟩ := hv.slice
 refine gives_ofk (fn := Try.f30) Try.func30 rfl Try.ntmps30 rfl (fun on => ?_)
 repeat refine s_seqs ?_
 refine s_reg ?_
 refine step_box_agg rfl rfl (fun b1 => ?_)
 refine qa rfl rfl ?_
 refine Vc.step_end (fun a w ok => ?_)
 (refine WPs.run ?_ a w ok; clear ok w a)
 repeat refine s_seqs ?_
 refine s_reg ?_
 refine step_pure rfl (pure_fieldAddr rfl rfl rfl rfl rfl (by decide)) ?_
 refine step_pure rfl (pure_load (i := 0) rfl rfl rfl rfl rfl rfl) ?_
 refine step_pure rfl (pure_fieldAddr rfl rfl rfl rfl rfl (by decide)) ?_
 refine step_pure rfl (pure_load (i := 0) rfl rfl rfl rfl rfl rfl) ?_
 refine step_makes rfl fun22 rfl (fun w' hh kp => rhead_any p.side p.num w') ?_
 rintro u m' ⟨base2, len2, cap2, e2, rfl, rfl, hs2⟩
 refine qm rfl rfl ?_
 refine qx rfl rfl rfl ?_
 refine qx rfl rfl rfl ?_
 refine qa rfl rfl ?_
 refine qa rfl rfl ?_
 refine Vc.step_end (fun a w ok => ?_)
 (refine WPs.run ?_ a w ok; clear ok w a)
 repeat refine s_seqs ?_
 refine s_reg ?_
 refine step_pure rfl (pure_fieldAddr rfl rfl rfl rfl rfl (by decide)) ?_
 refine step_pure rfl (pure_load (i := 1) rfl rfl rfl rfl rfl rfl) ?_
 refine step_givesP on.sc rfl fun31 rfl (fun w' Z' hh kp hZ hC => rwrite_P p.fs _ w' hZ (hv.mono fun p x h => h.now kp) hbig) ?_
 rintro u E1 g ⟨v3, rfl, hw⟩
 replace on := on.next g
 clear g hv
 refine qm rfl rfl ?_
 refine qx rfl rfl rfl ?_
 refine qx rfl rfl rfl ?_
 refine qa rfl rfl ?_
 refine qa rfl rfl ?_
 refine Vc.step_end (fun a w ok => ?_)
 (refine WPs.run ?_ a w ok; clear ok w a)
 repeat refine s_seqs ?_
 refine s_meet [(32, .bool (!pOk p))] [] ?_ (fun a w ok => WPs.run ?_ a w ok)
 ·clear hs2 hw hbig on
  unfold hdE pOk
  generalize hOk p.side p.num = hk at *
  generalize wrOk p.fs = wk at *
  generalize p.fs.length = n at *
  repeat refine c_seq ?_
  refine c_region ?_
  refine qm rfl rfl ?_
  refine step_pure rfl (pure_neq rfl rfl) ?_
  refine qm rfl rfl ?_
  refine step_split (t := 23) rfl (fun h23 => ?_) (fun h23 => ?_)
  ·refine qp rfl rfl rfl ?_
   refine qp rfl rfl rfl ?_
   refine step_pure rfl (pure_pick_yes rfl rfl) ?_
   refine qm rfl rfl ?_
   refine qp rfl rfl rfl ?_
   refine qp rfl rfl rfl ?_
   refine qp rfl rfl rfl ?_
   refine qp rfl rfl rfl ?_
   refine step_pure rfl (pure_pick_yes rfl rfl) ?_
   refine step_nil ?_
   refine less_sub ⟨?_, trivial⟩ (by repeat (first | exact List.Sublist.refl _ | exact List.nil_sublist _ | apply List.Sublist.cons_cons | apply List.Sublist.cons))
   refine congrArg some (congrArg Value.bool ?_)
   rw [Bool.eq_iff_iff]
   cases hk <;> cases wk <;> simp_all
  ·refine qm rfl rfl ?_
   refine step_pure rfl (pure_neq rfl rfl) ?_
   refine step_pure rfl (pure_pick_no rfl rfl) ?_
   refine qm rfl rfl ?_
   refine step_split (t := 27) rfl (fun h27 => ?_) (fun h27 => ?_)
   ·refine qp rfl rfl rfl ?_
    refine qp rfl rfl rfl ?_
    refine qp rfl rfl rfl ?_
    refine qp rfl rfl rfl ?_
    refine step_pure rfl (pure_pick_yes rfl rfl) ?_
    refine step_nil ?_
    refine less_sub ⟨?_, trivial⟩ (by repeat (first | exact List.Sublist.refl _ | exact List.nil_sublist _ | apply List.Sublist.cons_cons | apply List.Sublist.cons))
    refine congrArg some (congrArg Value.bool ?_)
    rw [Bool.eq_iff_iff]
    cases hk <;> cases wk <;> simp_all
   ·refine step_pure rfl (pure_fieldAddr rfl rfl rfl rfl rfl (by decide)) ?_
    refine step_pure rfl (pure_load (i := 1) rfl rfl rfl rfl rfl rfl) ?_
    refine step_pure rfl (pure_len_slice rfl rfl rfl) ?_
    refine step_pure rfl (pure_eql rfl rfl) ?_
    refine step_pure rfl (pure_pick_no rfl rfl) ?_
    refine step_nil ?_
    refine less_sub ⟨?_, trivial⟩ (by repeat (first | exact List.Sublist.refl _ | exact List.nil_sublist _ | apply List.Sublist.cons_cons | apply List.Sublist.cons))
    refine congrArg some (congrArg Value.bool ?_)
    rw [Bool.eq_iff_iff]
    cases hk <;> cases wk <;> simp_all
 repeat refine s_seqs ?_
 refine s_cond rfl (fun h => ?_) (fun h => ?_)
 ·rw [pE_no (by simpa using h)]
  repeat refine s_seqs ?_
  refine s_reg ?_
  refine qa rfl rfl ?_
  refine Vc.step_end (fun a w ok => ?_)
  (refine WPs.run ?_ a w ok; clear ok w a)
  exact s_ret fun a w ok => ends_k on (.inr rfl) ok (res_tmp Try.results30 rfl)
 ·rw [pE_yes (by simpa using h)]
  refine s_skip fun a w ok => WPs.run ?_ a w ok
  clear ok w a
  repeat refine s_seqs ?_
  refine s_reg ?_
  refine qa rfl rfl ?_
  refine Vc.step_end (fun a w ok => ?_)
  (refine WPs.run ?_ a w ok; clear ok w a)
  exact s_ret fun a w ok => ends_k on (.inr rfl) ok (res_tmp Try.results30 rfl)
end Go.Proofs.Ythieegnhjoehbaa
/- The packet that bytes are: Read, the document's too; two packets compared: walked. -/
namespace Go.Proofs.Ythieegnhjoehbaa
open Go.RowKit Go.Vc
set_option linter.unusedVariables false
def pG (b : List Int) : Pk := (pRd b).getD ⟨0, 0, []⟩
def pX (b : List Int) : Int := if (pRd b).isSome = true then 0 else 30
def PrR (b : List Int) (u : Value) (C : Addr → Value → Prop) : Prop := ∃ v, u = .tuple #[.agg [.int .i64 (pG b).side, .int .i64 (pG b).num, v].toArray, .int .i64 (pX b)] ∧ FrsC C v (pG b).fs
theorem prR_mono (b : List Int) : ∀ v (C C' : Addr → Value → Prop), (∀ a x, C a x → C' a x) → PrR b v C → PrR b v C' := by
 rintro u C C' hC ⟨v, rfl, hs⟩
 exact ⟨v, rfl, hs.mono hC⟩
theorem frs_nil {C : Addr → Value → Prop} : FrsC C (.slice none 0 0) [] := ⟨[], rfl, by simp, slc_nil⟩
theorem prR_no {b : List Int} {C : Addr → Value → Prop} (h : pRd b = none) : PrR b (.tuple #[.agg [.int .i64 0, .int .i64 0, .slice none 0 0].toArray, .int .i64 30]) C := by
 unfold PrR pG pX
 rw [h]
 exact ⟨_, rfl, frs_nil⟩
theorem prR_yes {b : List Int} {p : Pk} {v : Value} {C : Addr → Value → Prop} (h : pRd b = some p) (hv : FrsC C v p.fs) : PrR b (.tuple #[.agg [.int .i64 p.side, .int .i64 p.num, v].toArray, .int .i64 0]) C := by
 unfold PrR pG pX
 rw [h]
 exact ⟨_, rfl, hv⟩
theorem pRd_no {b : List Int} (h : hdd b = none) : pRd b = none := by unfold pRd; rw [h]; rfl
theorem pRd_some {b : List Int} {s n : Int} {k : Nat} (h : hdd b = some (s, n, k)) : pRd b = (rdAll (b.drop k)).bind fun l => if l.length = 0 then none else some ⟨s, n, l⟩ := by unfold pRd; rw [h]; rfl
def psB (p q : Pk) : Bool := (p.side == q.side && p.num == q.num) && allB p.fs q.fs
theorem psB_iff {p q : Pk} (hp : ∀ f ∈ p.fs, Bytes f.data) (hq : ∀ f ∈ q.fs, Bytes f.data) : psB p q = true ↔ p = q := by
 unfold psB
 rw [Bool.and_eq_true, Bool.and_eq_true, allB_iff hp hq]
 obtain ⟨s, n, l⟩ := p
 obtain ⟨t, m, k⟩ := q
 simp [and_assoc]
set_option maxHeartbeats 1000000 in
theorem psame_any (p q : Pk) (cs ds : List Value) (w : World) (hp : PkC (At w) p cs) (hq : PkC (At w) q ds) (hrl : ∀ f ∈ p.fs, f.rs.length ≤ 140737488355328) (hfl : p.fs.length ≤ 140737488355328) :
  Gives tb 19 [.agg cs.toArray, .agg ds.toArray] w (.bool (psB p q)) := by
 obtain ⟨fv, rfl, hv⟩ := hp
 obtain ⟨gv, rfl, hu⟩ := hq
 obtain ⟨fb, fc, rfl, hfc⟩ := hv.slice
 obtain ⟨gb, gc, rfl, hgc⟩ := hu.slice
 refine gives_of (fn := Try.f19) Try.func19 rfl Try.ntmps19 rfl ?_
 have hall := fun w' (kp : Keep w w' []) => all_any p.fs q.fs _ _ w' (hv.mono (at_keep kp)) (hu.mono (at_keep kp)) hrl hfl
 repeat refine c_seq ?_
 refine c_region ?_
 refine step_box_agg rfl rfl (fun b2 => ?_)
 refine step_box_agg rfl rfl (fun b3 => ?_)
 refine qa rfl rfl ?_
 refine step_nil ?_
 repeat refine c_seq ?_
 refine c_region ?_
 refine step_pure rfl (pure_fieldAddr rfl rfl rfl rfl rfl (by decide)) ?_
 refine step_pure rfl (pure_load (i := 1) rfl rfl rfl rfl rfl rfl) ?_
 refine step_pure rfl (pure_fieldAddr rfl rfl rfl rfl rfl (by decide)) ?_
 refine step_pure rfl (pure_load (i := 0) rfl rfl rfl rfl rfl rfl) ?_
 refine step_gives rfl fun42 rfl (fun w' _ kp => hall w' kp) ?_
 refine qa rfl rfl ?_
 refine step_nil ?_
 clear hall
 unfold psB
 generalize allB p.fs q.fs = al at *
 repeat refine c_seq ?_
 refine c_region ?_
 refine step_pure rfl (pure_fieldAddr rfl rfl rfl rfl rfl (by decide)) ?_
 refine step_pure rfl (pure_load (i := 1) rfl rfl rfl rfl rfl rfl) ?_
 refine step_pure rfl (pure_fieldAddr rfl rfl rfl rfl rfl (by decide)) ?_
 refine step_pure rfl (pure_load (i := 0) rfl rfl rfl rfl rfl rfl) ?_
 refine step_pure rfl (pure_eql rfl rfl) ?_
 refine qm rfl rfl ?_
 refine step_split (t := 16) rfl (fun h16 => ?_) (fun h16 => ?_)
 ·refine step_pure rfl (pure_fieldAddr rfl rfl rfl rfl rfl (by decide)) ?_
  refine step_pure rfl (pure_load (i := 1) rfl rfl rfl rfl rfl rfl) ?_
  refine step_pure rfl (pure_fieldAddr rfl rfl rfl rfl rfl (by decide)) ?_
  refine step_pure rfl (pure_load (i := 0) rfl rfl rfl rfl rfl rfl) ?_
  refine step_pure rfl (pure_eql rfl rfl) ?_
  refine step_pure rfl (pure_pick_yes rfl rfl) ?_
  refine qm rfl rfl ?_
  refine step_split (t := 23) rfl (fun h23 => ?_) (fun h23 => ?_)
  ·refine qm rfl rfl ?_
   refine step_pure rfl (pure_pick_yes rfl rfl) ?_
   refine qa rfl rfl ?_
   refine step_nil ?_
   refine c_ret ⟨_, res_tmp Try.results19 rfl, congrArg Value.bool ?_⟩
   simp_all
  ·refine qp rfl rfl rfl ?_
   refine step_pure rfl (pure_pick_no rfl rfl) ?_
   refine qa rfl rfl ?_
   refine step_nil ?_
   refine c_ret ⟨_, res_tmp Try.results19 rfl, congrArg Value.bool ?_⟩
   simp_all
 ·refine qp rfl rfl rfl ?_
  refine qp rfl rfl rfl ?_
  refine qp rfl rfl rfl ?_
  refine qp rfl rfl rfl ?_
  refine qp rfl rfl rfl ?_
  refine step_pure rfl (pure_pick_no rfl rfl) ?_
  refine qm rfl rfl ?_
  refine qp rfl rfl rfl ?_
  refine step_pure rfl (pure_pick_no rfl rfl) ?_
  refine qa rfl rfl ?_
  refine step_nil ?_
  refine c_ret ⟨_, res_tmp Try.results19 rfl, congrArg Value.bool ?_⟩
  simp_all
end Go.Proofs.Ythieegnhjoehbaa
