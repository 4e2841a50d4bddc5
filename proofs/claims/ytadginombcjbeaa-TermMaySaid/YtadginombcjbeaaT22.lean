/- The law TermOther: walked. -/
import Derived.Test.YtadginombcjbeaaT21
namespace Go.Proofs.Ytadginombcjbeaa
open Go.RowKit Go.Vc
set_option linter.unusedVariables false
def p1049 : List Int := [1049, 0, 0, 0, 0, 0, 0, 0]
theorem do_on {s : Scr} (h : s.alt = false) : tmDo ⟨4, 104, true, 0, p1049⟩ s = eraseF 0 s.cells.length { tmSave s with main := s.cells, alt := true } := by
 show tmMode 1049 true s = _
 unfold tmMode
 rw [if_neg (by decide), if_neg (by decide), if_pos ⟨rfl, rfl, h⟩]
theorem do_off {t : Scr} (h : t.alt = true) : tmDo ⟨4, 108, true, 0, p1049⟩ t = tmRestore { t with cells := t.main, main := [], alt := false } := by
 show tmMode 1049 false t = _
 unfold tmMode
 rw [if_neg (by decide), if_neg (by decide), if_neg (by intro h; cases h.2.1), if_pos ⟨rfl, rfl, h⟩]
theorem do_put (n : Int) (s : Scr) : tmDo ⟨1, n, false, 0, z8⟩ s = putF n s := rfl
/-- What of the main screen the other one bears. -/
structure Oth (s t : Scr) : Prop where
 W : t.W = s.W
 H : t.H = s.H
 alt : t.alt = true
 main : t.main = s.cells
 s0 : t.s0 = s.X
 s1 : t.s1 = s.Y
 s2 : t.s2 = s.A
 top : t.top = s.top
 bot : t.bot = s.bot
 auto : t.auto = s.auto
 hid : t.hid = s.hid
theorem oth_on (s : Scr) (f t : Int) : Oth s (eraseF f t { tmSave s with main := s.cells, alt := true }) := ⟨rfl, rfl, rfl, rfl, rfl, rfl, rfl, rfl, rfl, rfl, rfl⟩
theorem oth_down {s t : Scr} (h : Oth s t) : Oth s (downF t) := by
 unfold downF
 split
 ·exact ⟨h.W, h.H, h.alt, h.main, h.s0, h.s1, h.s2, h.top, h.bot, h.auto, h.hid⟩
 ·split <;> exact ⟨h.W, h.H, h.alt, h.main, h.s0, h.s1, h.s2, h.top, h.bot, h.auto, h.hid⟩
theorem oth_put {s t : Scr} (h : Oth s t) (n : Int) : Oth s (putF n t) := by
 have key : Oth s (if (t.wrap && t.auto) = true then downF { t with X := 0 } else t) := by
  split
  ·exact oth_down ⟨h.W, h.H, h.alt, h.main, h.s0, h.s1, h.s2, h.top, h.bot, h.auto, h.hid⟩
  ·exact h
 unfold putF setF
 exact ⟨key.W, key.H, key.alt, key.main, key.s0, key.s1, key.s2, key.top, key.bot, key.auto, key.hid⟩
theorem eraseL_all (l : List Ce) : eraseL l 0 l.length = List.replicate l.length blC := by
 have e1 : clampI 0 0 (l.length : Int) = 0 := by unfold clampI; omega
 have e2 : clampI (l.length : Int) 0 l.length = l.length := by unfold clampI; omega
 unfold eraseL
 rw [e1, e2, show (max (0 : Int) (l.length : Int)).toNat - (0 : Int).toNat = l.length by omega]
 exact splice_all List.length_replicate
theorem oth_off {s t : Scr} (ok : ScOk s) (ha : s.alt = false) (h : Oth s t) :
  { tmRestore { t with cells := t.main, main := [], alt := false } with wrap := s.wrap, s0 := s.s0, s1 := s.s1, s2 := s.s2 } = s := by
 have hm : s.main = [] := by
  have := okCells_len ok.main
  rw [ha, if_neg (by decide)] at this
  exact List.eq_nil_of_length_eq_zero (by omega)
 have hx := clamp_id ok.x
 have hy := clamp_id ok.y
 unfold tmRestore moveF
 dsimp only
 rw [h.s0, h.s1, h.s2, h.main, h.W, h.H, h.top, h.bot, h.auto, h.hid, hx, hy]
 obtain ⟨W, H, c, X, Y, A, tp, bt, wr, au, hi, al, s0, s1, s2, m⟩ := s
 dsimp only at *
 rw [hm, ha]
set_option maxHeartbeats 4000000 in
theorem termother_any (s : Scr) (cs : List Value) (bs : List Int) (v : Value) (w : World) (hs : ScV (At w) s cs) (k1 : s.cells.length ≤ maxLen) (k2 : s.main.length ≤ maxLen)
  (hv : SlC (At w) 1 v bs.length (row bs)) (hbb : Bytes bs) (hle : bs.length ≤ maxLen) :
  Gives tb 5 [.agg cs.toArray, v] w (.bool true) := by
 have hmx : maxLen ≤ 9223372036854775807 := by decide
 replace hs := scv_cz hs
 replace hv : SlC (Cz (fun _ => True) ⟨w, [], []⟩) 1 v bs.length (row bs) := hv.mono fun p x h => ⟨⟨h, by simp⟩, trivial⟩
 obtain ⟨base0, cap0, rfl, _⟩ := slc_sl hv
 obtain ⟨u1, u2, rfl, hq1, hq2⟩ := hs
 obtain ⟨a1, c1, rfl, _⟩ := slc_sl hq1
 obtain ⟨a2, c2, rfl, _⟩ := slc_sl hq2
 have hs : ScV (Cz (fun _ => True) ⟨w, [], []⟩) s (scC s (.slice a1 s.cells.length c1) (.slice a2 s.main.length c2)) := ⟨_, _, rfl, hq1, hq2⟩
 clear hq1 hq2
 refine gives_ofk (fn := Try.f5) Try.func5 rfl Try.ntmps5 rfl (fun on => ?_)
 repeat refine s_seqs ?_
 refine s_reg ?_
 refine step_box_agg rfl rfl (fun b2 => ?_)
 refine qa rfl rfl ?_
 refine Vc.step_end (fun a w ok => ?_)
 first | (refine WPs.run ?_ a w ok; clear ok w a) | skip
 repeat refine s_seqs ?_
 refine s_reg ?_
 refine step_gives rfl fun7 rfl (fun w _ _ => tawake_any w) ?_
 refine qa rfl rfl ?_
 refine Vc.step_end (fun a w ok => ?_)
 first | (refine WPs.run ?_ a w ok; clear ok w a) | skip
 repeat refine s_seqs ?_
 refine s_meet [(1, .slice base0 bs.length cap0), (2, .pointer (some ⟨b2, 0, none⟩)), (4, .bool false), (5, .bool true),
  (28, .bool (((decide ((s.cells.length : Int) > 500) || !scOk s) || s.alt) || decide ((bs.length : Int) > 100)))] [⟨b2, scC s (.slice a1 s.cells.length c1) (.slice a2 s.main.length c2), tSc⟩] ?_ (fun a w ok => WPs.run ?_ a w ok)
 ·have hck := fun w' (kp : Keep w w' []) => check_any s _ w' (hs.mono (Cz.now kp)) k1 k2
  have hce : ((ckE s) != 0) = !scOk s := by unfold ckE; cases scOk s <;> rfl
  generalize scOk s = so at *
  obtain ⟨d1, e1⟩ : ∃ d, decide ((s.cells.length : Int) > 500) = d := ⟨_, rfl⟩
  obtain ⟨d3, e3⟩ : ∃ d, decide ((bs.length : Int) > 100) = d := ⟨_, rfl⟩
  rw [e1, e3]
  repeat refine c_seq ?_
  refine c_region ?_
  refine step_pure rfl (pure_fieldAddr rfl rfl rfl rfl rfl (by decide)) ?_
  refine step_pure rfl (pure_load (i := 0) rfl rfl rfl rfl rfl rfl) ?_
  refine step_pure rfl (pure_len_slice rfl rfl rfl) ?_
  refine step_as rfl (pure_gtr rfl rfl) (congrArg Value.bool e1) ?_
  refine qm rfl rfl ?_
  refine step_split (t := 15) rfl (fun h15 => ?_) (fun h15 => ?_)
  ·refine qp rfl rfl rfl ?_
   refine qp rfl rfl rfl ?_
   refine qp rfl rfl rfl ?_
   refine step_pure rfl (pure_pick_yes rfl rfl) ?_
   refine qm rfl rfl ?_
   refine qp rfl rfl rfl ?_
   refine qp rfl rfl rfl ?_
   refine step_pure rfl (pure_pick_yes rfl rfl) ?_
   refine qm rfl rfl ?_
   refine qp rfl rfl rfl ?_
   refine qp rfl rfl rfl ?_
   refine qp rfl rfl rfl ?_
   refine step_pure rfl (pure_pick_yes rfl rfl) ?_
   refine step_nil ?_
   refine less_of ⟨rfl, rfl, rfl, rfl, ?_, trivial⟩ rfl
   refine congrArg some (congrArg Value.bool ?_)
   clear hck hce e1 e3 hs
   simp_all
  ·refine step_pure rfl (pure_load_agg (i := 0) rfl rfl rfl rfl rfl (Nat.le_of_ble_eq_true rfl) rfl) ?_
   refine step_gives rfl fun8 rfl (fun w' hh kp => hck w' kp) ?_
   refine step_as rfl (pure_neq rfl rfl) (congrArg Value.bool hce) ?_
   refine step_pure rfl (pure_pick_no rfl rfl) ?_
   refine qm rfl rfl ?_
   refine step_split (t := 20) rfl (fun h20 => ?_) (fun h20 => ?_)
   ·refine qp rfl rfl rfl ?_
    refine qp rfl rfl rfl ?_
    refine step_pure rfl (pure_pick_yes rfl rfl) ?_
    refine qm rfl rfl ?_
    refine qp rfl rfl rfl ?_
    refine qp rfl rfl rfl ?_
    refine qp rfl rfl rfl ?_
    refine step_pure rfl (pure_pick_yes rfl rfl) ?_
    refine step_nil ?_
    refine less_of ⟨rfl, rfl, rfl, rfl, ?_, trivial⟩ rfl
    refine congrArg some (congrArg Value.bool ?_)
    clear hck hce e1 e3 hs
    simp_all
   ·refine step_pure rfl (pure_fieldAddr rfl rfl rfl rfl rfl (by decide)) ?_
    refine step_pure rfl (pure_load (i := 0) rfl rfl rfl rfl rfl rfl) ?_
    refine step_pure rfl (pure_pick_no rfl rfl) ?_
    refine qm rfl rfl ?_
    refine step_split (t := 24) rfl (fun h24 => ?_) (fun h24 => ?_)
    ·refine qp rfl rfl rfl ?_
     refine qp rfl rfl rfl ?_
     refine qp rfl rfl rfl ?_
     refine step_pure rfl (pure_pick_yes rfl rfl) ?_
     refine step_nil ?_
     refine less_of ⟨rfl, rfl, rfl, rfl, ?_, trivial⟩ rfl
     refine congrArg some (congrArg Value.bool ?_)
     clear hck hce e1 e3 hs
     simp_all
    ·refine qm rfl rfl ?_
     refine step_pure rfl (pure_len_slice rfl rfl rfl) ?_
     refine step_as rfl (pure_gtr rfl rfl) (congrArg Value.bool e3) ?_
     refine step_pure rfl (pure_pick_no rfl rfl) ?_
     refine step_nil ?_
     refine less_of ⟨rfl, rfl, rfl, rfl, ?_, trivial⟩ rfl
     refine congrArg some (congrArg Value.bool ?_)
     clear hck hce e1 e3 hs
     simp_all
 repeat refine s_seqs ?_
 refine s_cond rfl (fun h => ?_) (fun h => ?_)
 ·repeat refine s_seqs ?_
  refine s_reg ?_
  refine qm rfl rfl ?_
  refine qa rfl rfl ?_
  refine Vc.step_end (fun a w ok => ?_)
  first | (refine WPs.run ?_ a w ok; clear ok w a) | skip
  exact s_ret fun a w ok => ends_k on (.inr rfl) ok (res_tmp Try.results5 rfl)
 have ok0 : ScOk s ∧ s.alt = false := by
  simp only [Bool.or_eq_false_iff, Bool.not_eq_false'] at h
  exact ⟨(scOk_iff s).1 h.1.1.2, h.1.2⟩
 obtain ⟨ok0, halt⟩ := ok0
 clear h
 refine s_skip fun a w ok => WPs.run ?_ a w ok
 clear ok w a
 have hst := still_do ok0 ⟨4, 104, true, 0, p1049⟩
 rw [do_on halt] at hst
 have hoth := oth_on s 0 s.cells.length
 have hcl : (eraseF 0 s.cells.length { tmSave s with main := s.cells, alt := true }).cells = List.replicate s.cells.length blC := eraseL_all s.cells
 have hpos : 0 < s.cells.length := by
  obtain ⟨W, q, hw, hq, hw1, hw2, hq1, hq2, hl, hle⟩ := wh_nat ok0
  rw [hl]
  exact Nat.mul_pos hw1 hq1
 repeat refine s_seqs ?_
 refine s_reg ?_
 refine step_pure rfl (pure_build_struct (pl := [(0, 1), (1, 1), (2, 1), (3, 1), (4, 8)]) rfl zero26 rfl rfl rfl rfl) ?_
 refine step_alloc rfl zero26 (fun b6 => ?_)
 first | refine step_store_agg 0 rfl rfl rfl (by decide) rfl rfl rfl rfl (by decide) rfl ?_ | refine step_store_agg 1 rfl rfl rfl (by decide) rfl rfl rfl rfl (by decide) rfl ?_ | refine step_store_agg 2 rfl rfl rfl (by decide) rfl rfl rfl rfl (by decide) rfl ?_ | refine step_store_agg 3 rfl rfl rfl (by decide) rfl rfl rfl rfl (by decide) rfl ?_ | refine step_store_agg 4 rfl rfl rfl (by decide) rfl rfl rfl rfl (by decide) rfl ?_ | refine step_store_agg 5 rfl rfl rfl (by decide) rfl rfl rfl rfl (by decide) rfl ?_ | refine step_store_agg 0 rfl rfl rfl (of_one rfl) rfl rfl rfl rfl (Nat.le_of_ble_eq_true rfl) rfl ?_ | refine step_store_agg 1 rfl rfl rfl (of_one rfl) rfl rfl rfl rfl (Nat.le_of_ble_eq_true rfl) rfl ?_ | refine step_store_agg 2 rfl rfl rfl (of_one rfl) rfl rfl rfl rfl (Nat.le_of_ble_eq_true rfl) rfl ?_ | refine step_store_agg 3 rfl rfl rfl (of_one rfl) rfl rfl rfl rfl (Nat.le_of_ble_eq_true rfl) rfl ?_ | refine step_store_agg 4 rfl rfl rfl (of_one rfl) rfl rfl rfl rfl (Nat.le_of_ble_eq_true rfl) rfl ?_ | refine step_store_agg 5 rfl rfl rfl (of_one rfl) rfl rfl rfl rfl (Nat.le_of_ble_eq_true rfl) rfl ?_
 refine Vc.step_end (fun a w ok => ?_)
 first | (refine WPs.run ?_ a w ok; clear ok w a) | skip
 repeat refine s_seqs ?_
 refine s_reg ?_
 refine step_pure rfl (pure_fieldAddr rfl rfl rfl rfl rfl (by decide)) ?_
 first | refine step_pure rfl (pure_ix rfl rfl rfl rfl rfl (by decide) (by decide) rfl) ?_ | refine step_pure rfl (pure_ix rfl rfl rfl rfl rfl (by omega) (by omega) rfl) ?_
 refine step_store 0 rfl rfl rfl rfl rfl rfl rfl rfl (Nat.le_of_ble_eq_true rfl) (show _ = acC ⟨4, 104, true, 0, p1049⟩ from rfl) ?_
 refine Vc.step_end (fun a w ok => ?_)
 first | (refine WPs.run ?_ a w ok; clear ok w a) | skip
 repeat refine s_seqs ?_
 refine s_reg ?_
 refine step_pure rfl (pure_load_agg (i := 0) rfl rfl rfl rfl rfl (Nat.le_of_ble_eq_true rfl) rfl) ?_
 refine step_alloc rfl zero26 (fun b7 => ?_)
 first | refine step_store_agg 0 rfl rfl rfl (by decide) rfl rfl rfl rfl (by decide) rfl ?_ | refine step_store_agg 1 rfl rfl rfl (by decide) rfl rfl rfl rfl (by decide) rfl ?_ | refine step_store_agg 2 rfl rfl rfl (by decide) rfl rfl rfl rfl (by decide) rfl ?_ | refine step_store_agg 3 rfl rfl rfl (by decide) rfl rfl rfl rfl (by decide) rfl ?_ | refine step_store_agg 4 rfl rfl rfl (by decide) rfl rfl rfl rfl (by decide) rfl ?_ | refine step_store_agg 5 rfl rfl rfl (by decide) rfl rfl rfl rfl (by decide) rfl ?_ | refine step_store_agg 0 rfl rfl rfl (of_one rfl) rfl rfl rfl rfl (Nat.le_of_ble_eq_true rfl) rfl ?_ | refine step_store_agg 1 rfl rfl rfl (of_one rfl) rfl rfl rfl rfl (Nat.le_of_ble_eq_true rfl) rfl ?_ | refine step_store_agg 2 rfl rfl rfl (of_one rfl) rfl rfl rfl rfl (Nat.le_of_ble_eq_true rfl) rfl ?_ | refine step_store_agg 3 rfl rfl rfl (of_one rfl) rfl rfl rfl rfl (Nat.le_of_ble_eq_true rfl) rfl ?_ | refine step_store_agg 4 rfl rfl rfl (of_one rfl) rfl rfl rfl rfl (Nat.le_of_ble_eq_true rfl) rfl ?_ | refine step_store_agg 5 rfl rfl rfl (of_one rfl) rfl rfl rfl rfl (Nat.le_of_ble_eq_true rfl) rfl ?_
 refine Vc.step_end (fun a w ok => ?_)
 first | (refine WPs.run ?_ a w ok; clear ok w a) | skip
 repeat refine s_seqs ?_
 refine s_reg ?_
 refine step_pure rfl (pure_fieldAddr rfl rfl rfl rfl rfl (by decide)) ?_
 refine step_store 0 rfl rfl rfl rfl rfl rfl rfl rfl (Nat.le_of_ble_eq_true rfl) (show _ = acC ⟨4, 108, true, 0, p1049⟩ from rfl) ?_
 refine Vc.step_end (fun a w ok => ?_)
 first | (refine WPs.run ?_ a w ok; clear ok w a) | skip
 repeat refine s_seqs ?_
 refine s_reg ?_
 refine step_pure rfl (pure_load_agg (i := 2) rfl rfl rfl rfl rfl (Nat.le_of_ble_eq_true rfl) rfl) ?_
 refine step_pure rfl (pure_load_agg (i := 1) rfl rfl rfl rfl rfl (Nat.le_of_ble_eq_true rfl) rfl) ?_
 refine step_givesP on.sc rfl fun13 rfl (fun w' Z' hh kp hZ hC => do_P s _ ⟨4, 104, true, 0, p1049⟩ w' hZ (hs.mono (Cz.now kp)) k1 k2 rfl) ?_
 rw [doF_ok ok0, do_on halt]
 rintro u E1 g ⟨cs1, rfl, hs1⟩
 replace on := on.next g
 replace hv := hv.mono g.cz
 replace hs := hs.mono g.cz
 clear g
 obtain ⟨hl1, ho1⟩ := scv_form hs1
 refine step_alloc rfl zero32 (fun b8 => ?_)
 refine step_store_agg 0 rfl rfl rfl ho1 rfl hl1 rfl rfl (Nat.le_of_ble_eq_true rfl) (splice_all hl1) ?_
 refine Vc.step_end (fun a w ok => ?_)
 first | (refine WPs.run ?_ a w ok; clear ok w a) | skip
 generalize eraseF 0 s.cells.length { tmSave s with main := s.cells, alt := true } = t1 at *
 clear hl1 ho1
 have hs1' := hs1
 obtain ⟨u3, u4, rfl, hq3, hq4⟩ := hs1
 have hs1 := hs1'
 clear hs1'
 have hcl2 : t1.cells.length = s.cells.length := by rw [hcl, List.length_replicate]
 obtain ⟨pa, ka, e1, qa0⟩ := slc_ce hq3 (i := 0) (by omega)
 subst e1
 obtain ⟨a4, c4, rfl, _⟩ := slc_sl hq4
 have hg0 : t1.cells.getD 0 blC = blC := by rw [hcl, getD_replicate]
 rw [hg0] at qa0
 clear hq3 hq4 hg0 hcl
 have n1 : ((t1.main.length : Int) != (s.cells.length : Int)) = false := by rw [hoth.main, bne_self_eq_false]
 have n2 : ((t1.cells.length : Int) != (s.cells.length : Int)) = false := by rw [hcl2, bne_self_eq_false]
 have n3 : (!t1.alt) = false := by rw [hoth.alt]; rfl
 repeat refine s_seqs ?_
 refine s_reg ?_
 refine step_pure rfl (pure_fieldAddr rfl rfl rfl rfl rfl (by decide)) ?_
 refine step_pure rfl (pure_load (i := 0) rfl rfl rfl rfl rfl rfl) ?_
 refine step_as rfl (pure_not rfl) (congrArg Value.bool n3) ?_
 refine qm rfl rfl ?_
 first | refine step_pure rfl (pure_fieldAddr rfl rfl rfl rfl rfl (by decide)) ?_ | refine qp rfl rfl rfl ?_
 first | refine step_pure rfl (pure_load (i := 0) rfl rfl rfl rfl rfl rfl) ?_ | refine qp rfl rfl rfl ?_
 first | refine step_pure rfl (pure_len_slice rfl rfl rfl) ?_ | refine qp rfl rfl rfl ?_
 first | refine step_pure rfl (pure_fieldAddr rfl rfl rfl rfl rfl (by decide)) ?_ | refine qp rfl rfl rfl ?_
 first | refine step_pure rfl (pure_load (i := 3) rfl rfl rfl rfl rfl rfl) ?_ | refine qp rfl rfl rfl ?_
 first | refine step_pure rfl (pure_len_slice rfl rfl rfl) ?_ | refine qp rfl rfl rfl ?_
 first | refine step_as rfl (pure_neq rfl rfl) (congrArg Value.bool n1) ?_ | refine qp rfl rfl rfl ?_
 first | refine step_pure rfl (pure_pick_yes rfl rfl) ?_ | refine step_pure rfl (pure_pick_no rfl rfl) ?_ | refine step_pure rfl (pure_pick_bool rfl rfl rfl) ?_
 refine qm rfl rfl ?_
 first | refine step_pure rfl (pure_fieldAddr rfl rfl rfl rfl rfl (by decide)) ?_ | refine qp rfl rfl rfl ?_
 first | refine step_pure rfl (pure_load (i := 0) rfl rfl rfl rfl rfl rfl) ?_ | refine qp rfl rfl rfl ?_
 first | refine step_pure rfl (pure_len_slice rfl rfl rfl) ?_ | refine qp rfl rfl rfl ?_
 first | refine step_pure rfl (pure_fieldAddr rfl rfl rfl rfl rfl (by decide)) ?_ | refine qp rfl rfl rfl ?_
 first | refine step_pure rfl (pure_load (i := 3) rfl rfl rfl rfl rfl rfl) ?_ | refine qp rfl rfl rfl ?_
 first | refine step_pure rfl (pure_len_slice rfl rfl rfl) ?_ | refine qp rfl rfl rfl ?_
 first | refine step_as rfl (pure_neq rfl rfl) (congrArg Value.bool n2) ?_ | refine qp rfl rfl rfl ?_
 first | refine step_pure rfl (pure_pick_yes rfl rfl) ?_ | refine step_pure rfl (pure_pick_no rfl rfl) ?_ | refine step_pure rfl (pure_pick_bool rfl rfl rfl) ?_
 refine qm rfl rfl ?_
 first | refine step_pure rfl (pure_fieldAddr rfl rfl rfl rfl rfl (by decide)) ?_ | refine qp rfl rfl rfl ?_
 first | refine step_pure rfl (pure_load (i := 0) rfl rfl rfl rfl rfl rfl) ?_ | refine qp rfl rfl rfl ?_
 first | refine step_pure rfl (pure_indexAddr_at rfl rfl rfl rfl rfl (by decide) (by omega)) ?_ | refine qp rfl rfl rfl ?_
 first | refine step_pure rfl (pure_cel_agg (vs := [.int .i64 32, .int .i64 0]) rfl rfl rfl rfl (fun j x hx => (qa0 j x hx).1)) ?_ | refine qp rfl rfl rfl ?_
 first | refine step_pure rfl (pure_build_struct (pl := [(0, 1), (1, 1)]) rfl zero48 rfl rfl rfl rfl) ?_ | refine qp rfl rfl rfl ?_
 first | refine step_pure rfl (pure_neq_ce rfl rfl) ?_ | refine qp rfl rfl rfl ?_
 first | refine step_pure rfl (pure_pick_yes rfl rfl) ?_ | refine step_pure rfl (pure_pick_no rfl rfl) ?_ | refine step_pure rfl (pure_pick_bool rfl rfl rfl) ?_
 refine Vc.step_end (fun a w ok => ?_)
 first | (refine WPs.run ?_ a w ok; clear ok w a) | skip
 repeat refine s_seqs ?_
 refine s_cond_no rfl rfl ?_
 refine s_skip fun a w ok => WPs.run ?_ a w ok
 clear ok w a
 clear qa0 n1 n2 n3 hcl2 hpos
 repeat refine s_seqs ?_
 refine s_reg ?_
 refine qa rfl rfl ?_
 refine Vc.step_end (fun a w ok => ?_)
 first | (refine WPs.run ?_ a w ok; clear ok w a) | skip
 repeat refine s_seqs ?_
 refine s_block ?_
 repeat refine s_seqs ?_
 refine s_loopP (α := Nat × Scr × List Value) (fun y => [(1, .slice base0 bs.length cap0), (2, .pointer (some ⟨b2, 0, none⟩)), (5, .bool true), (7, .pointer (some ⟨b7, 0, none⟩)), (8, .pointer (some ⟨b8, 0, none⟩)), (9, .int .i64 y.1)])
  (fun y => [⟨b8, y.2.2, tSc⟩, ⟨b7, acC ⟨4, 108, true, 0, p1049⟩, tA⟩, ⟨b2, scC s (.slice a1 s.cells.length c1) (.slice a2 s.main.length c2), tSc⟩])
  (fun y E => y.1 ≤ bs.length ∧ ScV (Cz (fun _ => True) E) y.2.1 y.2.2 ∧ ScOk y.2.1 ∧ Oth s y.2.1) (fun y => bs.length - y.1) (0, t1, _) ⟨Nat.zero_le _, hs1, hst.ok, hoth⟩ (less_sub ⟨rfl, rfl, rfl, rfl, rfl, rfl, trivial⟩ (by repeat (first | exact List.Sublist.refl _ | exact List.nil_sublist _ | apply List.Sublist.cons_cons | apply List.Sublist.cons))) ?_
 clear hs1 hst hoth
 rintro ⟨i, s1, cs1⟩ E3 ⟨hi, hs1, ok1, hk1⟩ g
 replace on := on.next g
 replace hv := hv.mono g.cz
 replace hs := hs.mono g.cz
 clear g
 dsimp only at hi hs1 ok1 hk1 ⊢
 obtain ⟨hl1, ho1⟩ := scv_form hs1
 obtain ⟨k3, k4⟩ := ok_lens ok1
 repeat refine s_seqs ?_
 refine s_reg ?_
 refine qm rfl rfl ?_
 refine qm rfl rfl ?_
 refine step_pure rfl (pure_len_slice rfl rfl rfl) ?_
 refine step_pure rfl (pure_lss rfl rfl) ?_
 refine Vc.step_end (fun a w ok => ?_)
 first | (refine WPs.run ?_ a w ok; clear ok w a) | skip
 repeat refine s_seqs ?_
 refine s_cond rfl (fun h1 => ?_) (fun h1 => ?_)
 ·have hlt : i < bs.length := by have := of_decide_eq_true h1; omega
  clear h1
  refine s_skip fun a w ok => WPs.run ?_ a w ok
  clear ok w a
  obtain ⟨p, cap', e1, q1⟩ := slc_at1 hv hlt
  cases e1
  have hb := hbb _ (List.getElem_mem hlt)
  generalize bs[i] = b at *
  have hwb : IntKind.i64.wrap b = b := wrap_i64 (by omega) (by omega)
  repeat refine s_seqs ?_
  refine s_block ?_
  repeat refine s_seqs ?_
  refine s_dreg [3, 9, 17, 25, 35, 41, 49, 57, 68, 76] ([⟨b8, cs1, tSc⟩]) follows (by kernel_rfl) ?_
  refine d_pure1 rfl rfl rfl (pure_load_agg (i := 0) (vs := cs1) rfl rfl rfl rfl rfl (by show 0 + 16 ≤ cs1.length; omega) (load_all hl1)) (by first | exact SubMem.refl _ | exact (SubMem.refl _).cons | exact (SubMem.refl _).cons.cons | exact (SubMem.refl _).cons.cons.cons | exact (SubMem.refl _).cons.cons.cons.cons | exact (fun w hh => Has.sublist (by repeat (first | exact List.Sublist.refl _ | exact List.nil_sublist _ | apply List.Sublist.cons_cons | apply List.Sublist.cons)) hh)) ?_
  refine qd rfl rfl rfl rfl ?_
  refine qd rfl rfl rfl rfl ?_
  refine d_pure0 rfl rfl rfl (pure_indexAddr_at rfl rfl rfl rfl rfl (by omega) (by omega)) ?_
  refine d_pure1 rfl rfl rfl (pure_cel rfl rfl rfl (show (Cel E3) _ _ from by rw [Int.toNat_natCast]; exact q1.1)) (by first | exact SubMem.refl _ | exact (SubMem.refl _).cons | exact (SubMem.refl _).cons.cons | exact (SubMem.refl _).cons.cons.cons | exact (SubMem.refl _).cons.cons.cons.cons | exact (fun w hh => Has.sublist (by repeat (first | exact List.Sublist.refl _ | exact List.nil_sublist _ | apply List.Sublist.cons_cons | apply List.Sublist.cons)) hh)) ?_
  refine d_as0 rfl rfl rfl (pure_conv rfl rfl rfl rfl) (congrArg (Value.int .i64) hwb) ?_
  first | refine d_pure0 rfl rfl rfl (pure_add64 rfl rfl (by omega) (by omega)) ?_ | refine d_pure0 rfl rfl rfl (pure_add rfl rfl) ?_
  refine d_pure0 rfl rfl rfl (pure_build_struct (pl := [(0, 1), (1, 1), (2, 1), (3, 1), (4, 8)]) rfl zero26 rfl rfl rfl rfl) ?_
  refine d_givesP on.sc rfl rfl rfl fun13 rfl (fun w' Z' hh kp hZ hC => do_P s1 cs1 ⟨1, 32 + b, false, 0, z8⟩ w' hZ (hs1.mono (Cz.now kp)) k3 k4 rfl) rfl ?_
  rw [doF_ok ok1, do_put]
  rintro u E4 g ⟨cs5, rfl, hs5⟩
  replace on := on.next g
  obtain ⟨hl5, ho5⟩ := scv_form hs5
  refine d_store_agg 0 rfl rfl rfl rfl rfl ho5 rfl hl5 rfl rfl (by show 0 + 16 ≤ cs1.length; omega) (splice_all (by rw [hl5]; exact hl1.symm)) rfl rfl ?_
  refine d_end (fun a w ok => ?_)
  first | (refine WPs.run ?_ a w ok; clear ok w a) | skip
  repeat refine s_seqs ?_
  refine s_reg ?_
  refine qm rfl rfl ?_
  first | refine step_pure rfl (pure_add64 rfl rfl (by omega) (by omega)) ?_ | refine step_pure rfl (pure_add rfl rfl) ?_
  refine qa rfl rfl ?_
  refine Vc.step_end (fun a w ok => ?_)
  refine ⟨(i + 1, _, cs5), E4, ⟨hlt, hs5, (still_put ok1 _).ok, oth_put hk1 _⟩, by show bs.length - (i + 1) < bs.length - i; omega, g, Less.ok ?_ ok⟩
  exact less_sub ⟨rfl, rfl, rfl, rfl, rfl, rfl, trivial⟩ (by repeat (first | exact List.Sublist.refl _ | exact List.nil_sublist _ | apply List.Sublist.cons_cons | apply List.Sublist.cons))
 ·clear h1
  refine s_exit fun a w ok => WPs.run ?_ a w ok
  clear ok w a
  have hfin := oth_off ok0 halt hk1
  repeat refine s_seqs ?_
  refine s_reg ?_
  refine step_pure rfl (pure_load_agg (i := 0) (vs := cs1) rfl rfl rfl rfl rfl (by show 0 + 16 ≤ cs1.length; omega) (load_all hl1)) ?_
  refine step_pure rfl (pure_load_agg (i := 1) rfl rfl rfl rfl rfl (Nat.le_of_ble_eq_true rfl) rfl) ?_
  refine step_givesP on.sc rfl fun13 rfl (fun w' Z' hh kp hZ hC => do_P s1 cs1 ⟨4, 108, true, 0, p1049⟩ w' hZ (hs1.mono (Cz.now kp)) k3 k4 rfl) ?_
  rw [doF_ok ok1, do_off hk1.alt]
  rintro u E4 g ⟨cs6, rfl, hs6⟩
  replace on := on.next g
  replace hs := hs.mono g.cz
  obtain ⟨hl6, ho6⟩ := scv_form hs6
  refine step_store_agg 0 rfl rfl rfl ho6 rfl hl6 rfl rfl (by show 0 + 16 ≤ cs1.length; omega) (splice_all (by rw [hl6]; exact hl1.symm)) ?_
  refine Vc.step_end (fun a w ok => ?_)
  first | (refine WPs.run ?_ a w ok; clear ok w a) | skip
  clear hl6 ho6
  generalize tmRestore { s1 with cells := s1.main, main := [], alt := false } = f at *
  obtain ⟨a3, l3, c3, a4, l4, c4, rfl⟩ := scv_agg hs6
  have hs7 : ScV (Cz (fun _ => True) E4) s (scC s (.slice a3 l3 c3) (.slice a4 l4 c4)) := by
   have h7 := scv_to (t := { f with wrap := s.wrap, s0 := s.s0, s1 := s.s1, s2 := s.s2 }) hs6 rfl rfl
   rw [hfin] at h7
   exact h7
  repeat refine s_seqs ?_
  refine s_reg ?_
  refine step_pure rfl (pure_fieldAddr rfl rfl rfl rfl rfl (by decide)) ?_
  refine step_pure rfl (pure_load (i := 2) rfl rfl rfl rfl rfl rfl) ?_
  refine step_pure rfl (pure_fieldAddr rfl rfl rfl rfl rfl (by decide)) ?_
  refine step_store 0 rfl rfl rfl rfl rfl rfl rfl rfl (Nat.le_of_ble_eq_true rfl) (show _ = scC { f with wrap := s.wrap } (.slice a3 l3 c3) (.slice a4 l4 c4) from rfl) ?_
  refine Vc.step_end (fun a w ok => ?_)
  first | (refine WPs.run ?_ a w ok; clear ok w a) | skip
  repeat refine s_seqs ?_
  refine s_reg ?_
  refine step_pure rfl (pure_fieldAddr rfl rfl rfl rfl rfl (by decide)) ?_
  refine step_pure rfl (pure_load_agg (i := 2) (vs := [.int .i64 s.s0, .int .i64 s.s1, .int .i64 s.s2]) rfl rfl rfl rfl rfl (Nat.le_of_ble_eq_true rfl) rfl) ?_
  refine step_pure rfl (pure_fieldAddr rfl rfl rfl rfl rfl (by decide)) ?_
  refine step_store_agg 0 rfl rfl rfl (of_one rfl) rfl rfl rfl rfl (Nat.le_of_ble_eq_true rfl) (show _ = scC { f with wrap := s.wrap, s0 := s.s0, s1 := s.s1, s2 := s.s2 } (.slice a3 l3 c3) (.slice a4 l4 c4) from rfl) ?_
  refine Vc.step_end (fun a w ok => ?_)
  first | (refine WPs.run ?_ a w ok; clear ok w a) | skip
  rw [hfin]
  repeat refine s_seqs ?_
  refine s_reg ?_
  refine qm rfl rfl ?_
  refine qm rfl rfl ?_
  first | refine step_pure rfl (pure_load_agg (i := 0) rfl rfl rfl rfl rfl (Nat.le_of_ble_eq_true rfl) rfl) ?_ | refine qp rfl rfl rfl ?_
  first | refine step_pure rfl (pure_load_agg (i := 2) rfl rfl rfl rfl rfl (Nat.le_of_ble_eq_true rfl) rfl) ?_ | refine qp rfl rfl rfl ?_
  first | refine step_gives rfl fun11 rfl (fun w' hh kp => same_eq s _ _ w' (hs7.mono (Cz.now kp)) (hs.mono (Cz.now kp)) k1 k2) ?_ | refine qp rfl rfl rfl ?_
  first | refine step_pure rfl (pure_pick_yes rfl rfl) ?_ | refine step_pure rfl (pure_pick_no rfl rfl) ?_ | refine step_pure rfl (pure_pick_bool rfl rfl rfl) ?_
  refine qa rfl rfl ?_
  refine Vc.step_end (fun a w ok => ?_)
  first | (refine WPs.run ?_ a w ok; clear ok w a) | skip
  exact s_ret fun a w ok => ends_k on (.inr rfl) ok (res_tmp Try.results5 rfl)
end Go.Proofs.Ytadginombcjbeaa
