/- The document's rows, scrolled: walked. -/
import Derived.Test.YtbcpgdjhomoghaaG25
import Derived.Test.YtbcpgdjhomoghaaG1
namespace Go.Proofs.Ytbcpgdjhomoghaa
open Go.RowKit Go.Vc
set_option linter.unusedVariables false
/-! lists that are changed place by place -/
def mixL (l T : List Ce) (o j : Nat) : List Ce := (List.range l.length).map fun i => if o ≤ i ∧ i < j then T.getD i blC else l.getD i blC
theorem mixL_len (l T : List Ce) (o j : Nat) : (mixL l T o j).length = l.length := by unfold mixL; rw [List.length_map, List.length_range]
theorem mixL_get (l T : List Ce) (o j i : Nat) (h : i < l.length) : (mixL l T o j).getD i blC = if o ≤ i ∧ i < j then T.getD i blC else l.getD i blC := by
 unfold mixL
 rw [List.getD_eq_getElem?_getD, List.getElem?_map, List.getElem?_range h]
 rfl
theorem mixL_start (l T : List Ce) (o : Nat) : mixL l T o o = l := ext_getD (mixL_len ..) fun i hi => by
 rw [mixL_len] at hi
 rw [mixL_get _ _ _ _ _ hi, if_neg (by omega)]
theorem mixL_end {l T : List Ce} {o e : Nat} (hl : T.length = l.length) (h : ∀ i, i < l.length → ¬ (o ≤ i ∧ i < e) → T.getD i blC = l.getD i blC) : mixL l T o e = T := ext_getD (by rw [mixL_len, hl]) fun i hi => by
 rw [mixL_len] at hi
 rw [mixL_get _ _ _ _ _ hi]
 split
 ·rfl
 ·rename_i hn
  exact (h i hi hn).symm
theorem mixL_set {l T : List Ce} {o j : Nat} (ho : o ≤ j) (hj : j < l.length) : (mixL l T o j).set j (T.getD j blC) = mixL l T o (j + 1) := by
 refine ext_getD (by rw [List.length_set, mixL_len, mixL_len]) fun i hi => ?_
 rw [List.length_set, mixL_len] at hi
 rw [mixL_get _ _ _ _ _ hi]
 by_cases hij : j = i
 ·subst hij
  rw [List.getD_eq_getElem?_getD, List.getElem?_set_self (by rw [mixL_len]; exact hi), if_pos (by omega)]
  rfl
 ·rw [List.getD_eq_getElem?_getD, List.getElem?_set_ne hij, ← List.getD_eq_getElem?_getD, mixL_get _ _ _ _ _ hi]
  by_cases h1 : o ≤ i ∧ i < j
  ·rw [if_pos h1, if_pos (by omega)]
  ·rw [if_neg h1, if_neg (by omega)]
def cl100 (n : Int) : Int := min (max n (-100)) 100
theorem rows_cell {l : List Ce} {w q a b y x : Nat} {n : Int} (hl : l.length = w * q) (hab : a ≤ b) (hb : b < q) (hq : q ≤ 64) (hy : a ≤ y ∧ y ≤ b) (hx : x < w) :
  (scrollL l w a b ((w : Int) * clampI n (-(q : Int)) q)).getD (y * w + x) blC = if (a : Int) ≤ (y : Int) + cl100 n ∧ (y : Int) + cl100 n ≤ b then l.getD (((y : Int) + cl100 n).toNat * w + x) blC else blC := by
 have h1 : a * w ≤ y * w := Nat.mul_le_mul_right _ hy.1
 have h2 : (y + 1) * w ≤ (b + 1) * w := Nat.mul_le_mul_right _ (by omega)
 have h3 : (b + 1) * w ≤ w * q := by rw [Nat.mul_comm w q]; exact Nat.mul_le_mul_right _ hb
 have h4 : (y + 1) * w = y * w + w := by rw [Nat.add_mul, Nat.one_mul]
 rw [scrollL_get hl hab hb _ (by omega), if_pos ⟨by omega, by omega⟩]
 obtain ⟨k, hk⟩ : ∃ k, k = clampI n (-(q : Int)) q := ⟨_, rfl⟩
 rw [← hk]
 have e1 : ((y : Int) + k) * (w : Int) = (y : Int) * w + k * w := Int.add_mul ..
 have e2 : (w : Int) * k = k * w := Int.mul_comm ..
 have e3 : ((y * w : Nat) : Int) = (y : Int) * w := Int.natCast_mul ..
 have e4 : ((y * w + x : Nat) : Int) + (w : Int) * k = ((y : Int) + k) * (w : Int) + x := by rw [e1, e2, Int.natCast_add, e3]; omega
 rw [e4]
 by_cases hc : (a : Int) ≤ (y : Int) + k ∧ (y : Int) + k ≤ b
 ·have hm : cl100 n = k := by rw [hk] at hc ⊢; unfold cl100 clampI at *; omega
  obtain ⟨f, hf⟩ : ∃ f : Nat, (y : Int) + k = f := ⟨((y : Int) + k).toNat, by omega⟩
  rw [hm, hf]
  have h5 : a * w ≤ f * w := Nat.mul_le_mul_right _ (by omega)
  have h6 : (f + 1) * w ≤ (b + 1) * w := Nat.mul_le_mul_right _ (by omega)
  have h7 : (f + 1) * w = f * w + w := by rw [Nat.add_mul, Nat.one_mul]
  have e5 : (f : Int) * (w : Int) = ((f * w : Nat) : Int) := mulN ..
  rw [e5, if_pos (by omega), if_pos (by omega), Int.toNat_natCast, show (((f * w : Nat) : Int) + (x : Int)).toNat = f * w + x by omega]
 ·have hm : ¬ ((a : Int) ≤ (y : Int) + cl100 n ∧ (y : Int) + cl100 n ≤ b) := by rw [hk] at hc; unfold cl100 clampI at *; omega
  rw [if_neg hm, if_neg]
  by_cases h5 : (y : Int) + k < a
  ·have h6 : ((y : Int) + k + 1) * (w : Int) ≤ (a : Int) * (w : Int) := Int.mul_le_mul_of_nonneg_right (by omega) (by omega)
   rw [Int.add_mul, Int.one_mul, mulN a w] at h6
   omega
  ·have h6 : ((b + 1 : Nat) : Int) * (w : Int) ≤ ((y : Int) + k) * (w : Int) := Int.mul_le_mul_of_nonneg_right (by omega) (by omega)
   rw [mulN (b + 1) w] at h6
   omega
set_option maxHeartbeats 4000000 in
theorem rrows_P (s : Scr) (cs : List Value) (a b n : Int) (w : World) {Z : Nat → Prop} (hZ : ∀ j, w.heap.size ≤ j → Z j) (hs : ScV (At w) s cs) (ok : ScOk s) (hab : 0 ≤ a ∧ a ≤ b ∧ b < s.H) :
  GivesP tb 41 [.agg cs.toArray, .int .i64 a, .int .i64 b, .int .i64 n] w Z (ScR (scrollF s a b n)) := by
 obtain ⟨W, q, hw, hq, hw1, hw2, hq1, hq2, hl, hle⟩ := wh_nat ok
 obtain ⟨a, rfl⟩ : ∃ k : Nat, a = k := ⟨a.toNat, by omega⟩
 obtain ⟨b, rfl⟩ : ∃ k : Nat, b = k := ⟨b.toNat, by omega⟩
 have hmx : 4096 ≤ maxLen := by decide
 obtain ⟨hn1, hn2⟩ : s.cells.length ≤ maxLen ∧ s.main.length ≤ maxLen := by have := ok_lens' ok; omega
 have hpos := cells_pos ok
 have hin := rows_in (w := W) (q := q) (a := a) (b := b) (by omega) (by omega)
 have hin2 : (b + 1) * W ≤ W * q := by rw [← Nat.add_mul, show a + (b + 1 - a) = b + 1 by omega] at hin; exact hin
 have hT : (scrollF s a b n).cells = scrollL s.cells W a b ((W : Int) * clampI n (-(q : Int)) q) := by
  show scrollL s.cells s.W.toNat (a : Int).toNat (b : Int).toNat (s.W * clampI n (-s.H) s.H) = _
  rw [hw, hq, Int.toNat_natCast, Int.toNat_natCast, Int.toNat_natCast]
 have hTl : (scrollL s.cells W a b ((W : Int) * clampI n (-(q : Int)) q)).length = s.cells.length := scrollL_len hl (by omega) (by omega)
 have hTc := fun (y x : Nat) (hy : a ≤ y ∧ y ≤ b) (hx : x < W) => rows_cell (l := s.cells) (w := W) (q := q) (a := a) (b := b) (y := y) (x := x) (n := n) hl (by omega) (by omega) hq2 hy hx
 have hTe : mixL s.cells (scrollL s.cells W a b ((W : Int) * clampI n (-(q : Int)) q)) (a * W) ((b + 1) * W) = scrollL s.cells W a b ((W : Int) * clampI n (-(q : Int)) q) := mixL_end hTl fun i hi hni => by
  rw [scrollL_get hl (by omega) (by omega) i hi, if_neg hni]
 have hTm : SlC (fun _ _ => True) 2 (.slice none 0 0) 0 [] := slc_none
 replace hs := scv_cz hs
 obtain ⟨v1, v2, rfl, hcs, hms⟩ := id hs
 obtain ⟨a5, c5, rfl, _⟩ := slc_sl hcs
 obtain ⟨a6, c6, rfl, _⟩ := slc_sl hms
 clear hms
 refine givesP_of (fn := Try.f41) Try.func41 rfl Try.ntmps41 rfl hZ scR_mono (fun on => ?_)
 unfold ScR
 rw [show scrollF s a b n = { s with cells := scrollL s.cells W a b ((W : Int) * clampI n (-(q : Int)) q) } from by rw [← hT]; rfl]
 clear hT
 generalize scrollL s.cells W a b ((W : Int) * clampI n (-(q : Int)) q) = T at *
 repeat refine s_seqs ?_
 refine s_reg ?_
 refine step_box_agg rfl rfl (fun b4 => ?_)
 refine step_alloc rfl zero27 (fun b8 => ?_)
 refine Vc.step_end (fun a w ok => ?_)
 first | (refine WPs.run ?_ a w ok; clear ok w a) | skip
 repeat refine s_seqs ?_
 refine s_reg ?_
 first | refine step_pure rfl (pure_load_agg (i := 0) rfl rfl rfl rfl rfl (by first | decide | exact Nat.le_of_ble_eq_true rfl) rfl) ?_ | refine step_pure rfl (pure_load_agg (i := 1) rfl rfl rfl rfl rfl (by first | decide | exact Nat.le_of_ble_eq_true rfl) rfl) ?_ | refine step_pure rfl (pure_load_agg (i := 2) rfl rfl rfl rfl rfl (by first | decide | exact Nat.le_of_ble_eq_true rfl) rfl) ?_ | refine step_pure rfl (pure_load_agg (i := 3) rfl rfl rfl rfl rfl (by first | decide | exact Nat.le_of_ble_eq_true rfl) rfl) ?_ | refine step_pure rfl (pure_load_agg (i := 4) rfl rfl rfl rfl rfl (by first | decide | exact Nat.le_of_ble_eq_true rfl) rfl) ?_ | refine step_pure rfl (pure_load_agg (i := 5) rfl rfl rfl rfl rfl (by first | decide | exact Nat.le_of_ble_eq_true rfl) rfl) ?_
 refine step_wm [] _ on.sc rfl fun37 rfl (List.Perm.refl _) (fun w' Z' hh kp h0 hZ hZ0 hC => rcopy_W s _ w' hZ (hs.mono (Cz.now kp)) hn1 hn2) ?_
 rintro u m1 E3 g ⟨base, cap, a7, l7, c7, e, rfl, rfl, hse, hm7⟩
 rw [doI_yes ok] at hse hm7 ⊢
 replace on := on.next g
 replace hcs := hcs.mono g.cz
 clear g hs
 obtain ⟨bc, tl, rfl, rfl, htl, hcap⟩ := slis_ce hse hpos
 clear hse
 refine step_alloc rfl zero27 (fun b9 => ?_)
 refine step_store_agg 0 rfl rfl rfl (scC_one s (some ⟨bc, 0, none⟩) a7 s.cells.length cap l7 c7) rfl rfl rfl rfl (Nat.le_of_ble_eq_true rfl) (show _ = scC s (.slice (some ⟨bc, 0, none⟩) s.cells.length cap) (.slice a7 l7 c7) from rfl) ?_
 refine Vc.step_end (fun a w ok => ?_)
 first | (refine WPs.run ?_ a w ok; clear ok w a) | skip
 repeat refine s_seqs ?_
 refine s_reg ?_
 refine qm rfl rfl ?_
 refine qa rfl rfl ?_
 refine Vc.step_end (fun a w ok => ?_)
 first | (refine WPs.run ?_ a w ok; clear ok w a) | skip
 repeat refine s_seqs ?_
 refine s_block ?_
 repeat refine s_seqs ?_
 refine s_loopP (α := Nat) (fun y => [(1, .int .i64 a), (2, .int .i64 b), (3, .int .i64 n), (4, .pointer (some ⟨b4, 0, none⟩)), (8, .pointer (some ⟨b8, 0, none⟩)), (9, .pointer (some ⟨b9, 0, none⟩)), (10, .int .i64 y)])
  (fun y => [⟨b9, scC s (.slice (some ⟨bc, 0, none⟩) s.cells.length cap) (.slice a7 l7 c7), tSc⟩, ⟨bc, ceR (mixL s.cells T (a * W) (y * W)) ++ tl, tC⟩, ⟨b8, scC zScr (.slice none 0 0) (.slice none 0 0), tSc⟩, ⟨b4, scC s (.slice a5 s.cells.length c5) (.slice a6 s.main.length c6), tSc⟩])
  (fun y _ => a ≤ y ∧ y ≤ b + 1) (fun y => b + 1 - y) a ⟨Nat.le_refl _, by omega⟩ (less_of ⟨rfl, rfl, rfl, rfl, rfl, rfl, rfl, trivial⟩ (by rw [mixL_start]; rfl)) ?_
 rintro y E4 ⟨hy1, hy2⟩ g
 replace on := on.next g
 replace hcs := hcs.mono g.cz
 replace hm7 := hm7.mono g.cz
 clear g
 repeat refine s_seqs ?_
 refine s_reg ?_
 refine qm rfl rfl ?_
 refine qm rfl rfl ?_
 refine step_pure rfl (pure_leq rfl rfl) ?_
 refine Vc.step_end (fun a w ok => ?_)
 first | (refine WPs.run ?_ a w ok; clear ok w a) | skip
 repeat refine s_seqs ?_
 refine s_cond rfl (fun h => ?_) (fun h => ?_)
 ·have hyb : y ≤ b := by have := of_decide_eq_true h; omega
  clear h
  refine s_skip fun a w ok => WPs.run ?_ a w ok
  clear ok w a
  have hyW : (y + 1) * W ≤ (b + 1) * W := Nat.mul_le_mul_right _ (by omega)
  have hyw2 : (y + 1) * W = y * W + W := by rw [Nat.add_mul, Nat.one_mul]
  have haW : a * W ≤ y * W := Nat.mul_le_mul_right _ hy1
  repeat refine s_seqs ?_
  refine s_meetP (α := Unit) (fun _ => [(1, .int .i64 a), (2, .int .i64 b), (3, .int .i64 n), (4, .pointer (some ⟨b4, 0, none⟩)), (8, .pointer (some ⟨b8, 0, none⟩)), (9, .pointer (some ⟨b9, 0, none⟩)), (10, .int .i64 y)])
   (fun _ => [⟨b9, scC s (.slice (some ⟨bc, 0, none⟩) s.cells.length cap) (.slice a7 l7 c7), tSc⟩, ⟨bc, ceR (mixL s.cells T (a * W) ((y + 1) * W)) ++ tl, tC⟩, ⟨b8, scC zScr (.slice none 0 0) (.slice none 0 0), tSc⟩, ⟨b4, scC s (.slice a5 s.cells.length c5) (.slice a6 s.main.length c6), tSc⟩])
   (fun _ _ => True) ?_ ?_
  ·repeat refine s_seqs ?_
   refine s_block ?_
   repeat refine s_seqs ?_
   refine s_reg ?_
   refine qa rfl rfl ?_
   refine Vc.step_end (fun a w ok => ?_)
   first | (refine WPs.run ?_ a w ok; clear ok w a) | skip
   repeat refine s_seqs ?_
   refine s_block ?_
   repeat refine s_seqs ?_
   refine s_loopP (α := Nat) (fun x => [(1, .int .i64 a), (2, .int .i64 b), (3, .int .i64 n), (4, .pointer (some ⟨b4, 0, none⟩)), (8, .pointer (some ⟨b8, 0, none⟩)), (9, .pointer (some ⟨b9, 0, none⟩)), (10, .int .i64 y), (11, .int .i64 x)]) (fun x => [⟨b9, scC s (.slice (some ⟨bc, 0, none⟩) s.cells.length cap) (.slice a7 l7 c7), tSc⟩, ⟨bc, ceR (mixL s.cells T (a * W) (y * W + x)) ++ tl, tC⟩, ⟨b8, scC zScr (.slice none 0 0) (.slice none 0 0), tSc⟩, ⟨b4, scC s (.slice a5 s.cells.length c5) (.slice a6 s.main.length c6), tSc⟩]) (fun x _ => x ≤ W) (fun x => W - x) 0 (Nat.zero_le _) (less_of ⟨rfl, rfl, rfl, rfl, rfl, rfl, rfl, rfl, trivial⟩ rfl) ?_
   intro x E5 hx g
   replace on := on.next g
   replace hcs := hcs.mono g.cz
   have g5 := g
   clear g
   repeat refine s_seqs ?_
   refine s_reg ?_
   refine qm rfl rfl ?_
   refine step_pure rfl (pure_fieldAddr rfl rfl rfl rfl rfl (by decide)) ?_
   first | refine step_pure rfl (pure_load (i := 0) rfl rfl rfl rfl rfl rfl) ?_ | refine step_pure rfl (pure_load (i := 1) rfl rfl rfl rfl rfl rfl) ?_ | refine step_pure rfl (pure_load (i := 2) rfl rfl rfl rfl rfl rfl) ?_ | refine step_pure rfl (pure_load (i := 3) rfl rfl rfl rfl rfl rfl) ?_ | refine step_pure rfl (pure_load (i := 4) rfl rfl rfl rfl rfl rfl) ?_ | refine step_pure rfl (pure_load (i := 5) rfl rfl rfl rfl rfl rfl) ?_
   refine step_pure rfl (pure_lss rfl rfl) ?_
   refine Vc.step_end (fun a w ok => ?_)
   first | (refine WPs.run ?_ a w ok; clear ok w a) | skip
   repeat refine s_seqs ?_
   refine s_cond rfl (fun h => ?_) (fun h => ?_)
   ·have hxw : x < W := by have := of_decide_eq_true h; omega
    clear h
    refine s_skip fun a w ok => WPs.run ?_ a w ok
    clear ok w a
    repeat refine s_seqs ?_
    refine s_block ?_
    have htc := hTc y x ⟨hy1, hyb⟩ hxw
    have hmxs := mixL_set (l := s.cells) (T := T) (o := a * W) (j := y * W + x) (by omega) (by omega)
    have hmxl := mixL_len s.cells T (a * W) (y * W + x)
    have hcl : (ceR (mixL s.cells T (a * W) (y * W + x)) ++ tl).length = s.cells.length * 2 + tl.length := by rw [List.length_append, ceR_len, hmxl]
    have hpl : Plc (mixL s.cells T (a * W) (y * W + x)) (0 + (y * W + x) * 2) (y * W + x) 1 := ⟨fun _ => by omega, by omega, by omega⟩
    have hsp := plc_wr (x := [T.getD (y * W + x) blC]) (tl := tl) hpl rfl
    rw [show splice (mixL s.cells T (a * W) (y * W + x)) (y * W + x) [T.getD (y * W + x) blC] = mixL s.cells T (a * W) (y * W + x + 1) from (splice_one (by omega)).trans hmxs] at hsp
    have hcl100 : -100 ≤ cl100 n ∧ cl100 n ≤ 100 := by unfold cl100; omega
    repeat refine s_seqs ?_
    refine s_reg ?_
    refine step_pure rfl (pure_build_struct (pl := [(0, 1), (1, 1)]) rfl zero33 rfl rfl rfl rfl) ?_
    refine step_alloc rfl zero33 (fun b12 => ?_)
    first | refine step_store_agg 0 rfl rfl rfl (by decide) rfl rfl rfl rfl (by decide) rfl ?_ | refine step_store_agg 1 rfl rfl rfl (by decide) rfl rfl rfl rfl (by decide) rfl ?_ | refine step_store_agg 2 rfl rfl rfl (by decide) rfl rfl rfl rfl (by decide) rfl ?_ | refine step_store_agg 3 rfl rfl rfl (by decide) rfl rfl rfl rfl (by decide) rfl ?_ | refine step_store_agg 4 rfl rfl rfl (by decide) rfl rfl rfl rfl (by decide) rfl ?_ | refine step_store_agg 5 rfl rfl rfl (by decide) rfl rfl rfl rfl (by decide) rfl ?_ | refine step_store_agg 0 rfl rfl rfl (of_one rfl) rfl rfl rfl rfl (Nat.le_of_ble_eq_true rfl) rfl ?_ | refine step_store_agg 1 rfl rfl rfl (of_one rfl) rfl rfl rfl rfl (Nat.le_of_ble_eq_true rfl) rfl ?_ | refine step_store_agg 2 rfl rfl rfl (of_one rfl) rfl rfl rfl rfl (Nat.le_of_ble_eq_true rfl) rfl ?_ | refine step_store_agg 3 rfl rfl rfl (of_one rfl) rfl rfl rfl rfl (Nat.le_of_ble_eq_true rfl) rfl ?_ | refine step_store_agg 4 rfl rfl rfl (of_one rfl) rfl rfl rfl rfl (Nat.le_of_ble_eq_true rfl) rfl ?_ | refine step_store_agg 5 rfl rfl rfl (of_one rfl) rfl rfl rfl rfl (Nat.le_of_ble_eq_true rfl) rfl ?_
    refine Vc.step_end (fun a w ok => ?_)
    first | (refine WPs.run ?_ a w ok; clear ok w a) | skip
    repeat refine s_seqs ?_
    refine s_reg ?_
    refine qm rfl rfl ?_
    refine qm rfl rfl ?_
    refine step_pure rfl (pure_max rfl rfl) ?_
    refine step_pure rfl (pure_min rfl rfl) ?_
    refine step_as rfl (pure_add rfl rfl) (show _ = Value.int .i64 ((y : Int) + cl100 n) from congrArg (Value.int .i64) (wrap_i64 (by show _ ≤ (y : Int) + cl100 n; omega) (by show (y : Int) + cl100 n ≤ _; omega))) ?_
    refine qa rfl rfl ?_
    refine Vc.step_end (fun a w ok => ?_)
    first | (refine WPs.run ?_ a w ok; clear ok w a) | skip
    generalize (y : Int) + cl100 n = f at *
    repeat refine s_seqs ?_
    refine s_meet [(1, .int .i64 a), (2, .int .i64 b), (3, .int .i64 n), (4, .pointer (some ⟨b4, 0, none⟩)), (8, .pointer (some ⟨b8, 0, none⟩)), (9, .pointer (some ⟨b9, 0, none⟩)), (10, .int .i64 y), (11, .int .i64 x), (12, .pointer (some ⟨b12, 0, none⟩)), (13, .int .i64 f), (41, .bool (decide ((a : Int) ≤ f ∧ f ≤ b)))] (⟨b12, [.int .i64 32, .int .i64 0], tC⟩ :: [⟨b9, scC s (.slice (some ⟨bc, 0, none⟩) s.cells.length cap) (.slice a7 l7 c7), tSc⟩, ⟨bc, ceR (mixL s.cells T (a * W) (y * W + x)) ++ tl, tC⟩, ⟨b8, scC zScr (.slice none 0 0) (.slice none 0 0), tSc⟩, ⟨b4, scC s (.slice a5 s.cells.length c5) (.slice a6 s.main.length c6), tSc⟩]) ?_ (fun a9 w9 ok9 => WPs.run ?_ a9 w9 ok9)
    ·clear htc hmxs hmxl hcl hpl hsp hcs hTc hTe
     repeat refine c_seq ?_
     refine c_region ?_
     refine qm rfl rfl ?_
     refine qm rfl rfl ?_
     refine step_pure rfl (pure_geq rfl rfl) ?_
     refine qm rfl rfl ?_
     refine step_split (t := 37) rfl (fun h37 => ?_) (fun h37 => ?_)
     ·refine qm rfl rfl ?_
      refine qm rfl rfl ?_
      refine step_pure rfl (pure_leq rfl rfl) ?_
      refine step_pure rfl (pure_pick_yes rfl rfl) ?_
      refine step_nil ?_
      refine less_of ⟨rfl, rfl, rfl, rfl, rfl, rfl, rfl, rfl, rfl, rfl, ?_, trivial⟩ rfl
      refine congrArg some (congrArg Value.bool ?_)
      rw [Bool.eq_iff_iff]
      simp_all
      try omega
     ·refine qp rfl rfl rfl ?_
      refine qp rfl rfl rfl ?_
      refine qp rfl rfl rfl ?_
      refine step_pure rfl (pure_pick_no rfl rfl) ?_
      refine step_nil ?_
      refine less_of ⟨rfl, rfl, rfl, rfl, rfl, rfl, rfl, rfl, rfl, rfl, ?_, trivial⟩ rfl
      refine congrArg some (congrArg Value.bool ?_)
      rw [Bool.eq_iff_iff]
      simp_all
      try omega
    repeat refine s_seqs ?_
    refine s_meet [(1, .int .i64 a), (2, .int .i64 b), (3, .int .i64 n), (4, .pointer (some ⟨b4, 0, none⟩)), (8, .pointer (some ⟨b8, 0, none⟩)), (9, .pointer (some ⟨b9, 0, none⟩)), (10, .int .i64 y), (11, .int .i64 x), (12, .pointer (some ⟨b12, 0, none⟩))] (⟨b12, [.int .i64 (T.getD (y * W + x) blC).1, .int .i64 (T.getD (y * W + x) blC).2], tC⟩ :: [⟨b9, scC s (.slice (some ⟨bc, 0, none⟩) s.cells.length cap) (.slice a7 l7 c7), tSc⟩, ⟨bc, ceR (mixL s.cells T (a * W) (y * W + x)) ++ tl, tC⟩, ⟨b8, scC zScr (.slice none 0 0) (.slice none 0 0), tSc⟩, ⟨b4, scC s (.slice a5 s.cells.length c5) (.slice a6 s.main.length c6), tSc⟩]) ?_ (fun a9 w9 ok9 => WPs.run ?_ a9 w9 ok9)
    ·by_cases hf : (a : Int) ≤ f ∧ f ≤ b
     ·rw [htc, if_pos hf]
      obtain ⟨F, rfl⟩ : ∃ k : Nat, f = k := ⟨f.toNat, by omega⟩
      rw [Int.toNat_natCast]
      have hFW : (F + 1) * W ≤ (b + 1) * W := Nat.mul_le_mul_right _ (by omega)
      have hFw2 : (F + 1) * W = F * W + W := by rw [Nat.add_mul, Nat.one_mul]
      obtain ⟨p, k, e1, q1⟩ := slc_ce hcs (show F * W + x < s.cells.length by omega)
      cases e1
      generalize s.cells.getD (F * W + x) blC = c at *
      repeat refine c_seq ?_
      refine c_cond_yes rfl (decide_eq_true hf) ?_
      repeat refine c_seq ?_
      refine c_region ?_
      refine step_pure rfl (pure_fieldAddr rfl rfl rfl rfl rfl (by decide)) ?_
      first | refine step_pure rfl (pure_load (i := 0) rfl rfl rfl rfl rfl rfl) ?_ | refine step_pure rfl (pure_load (i := 1) rfl rfl rfl rfl rfl rfl) ?_ | refine step_pure rfl (pure_load (i := 2) rfl rfl rfl rfl rfl rfl) ?_ | refine step_pure rfl (pure_load (i := 3) rfl rfl rfl rfl rfl rfl) ?_ | refine step_pure rfl (pure_load (i := 4) rfl rfl rfl rfl rfl rfl) ?_ | refine step_pure rfl (pure_load (i := 5) rfl rfl rfl rfl rfl rfl) ?_
      refine qm rfl rfl ?_
      refine step_pure rfl (pure_fieldAddr rfl rfl rfl rfl rfl (by decide)) ?_
      first | refine step_pure rfl (pure_load (i := 0) rfl rfl rfl rfl rfl rfl) ?_ | refine step_pure rfl (pure_load (i := 1) rfl rfl rfl rfl rfl rfl) ?_ | refine step_pure rfl (pure_load (i := 2) rfl rfl rfl rfl rfl rfl) ?_ | refine step_pure rfl (pure_load (i := 3) rfl rfl rfl rfl rfl rfl) ?_ | refine step_pure rfl (pure_load (i := 4) rfl rfl rfl rfl rfl rfl) ?_ | refine step_pure rfl (pure_load (i := 5) rfl rfl rfl rfl rfl rfl) ?_
      refine step_as rfl (pure_mul rfl rfl) (show _ = Value.int .i64 ((F * W : Nat) : Int) from congrArg (Value.int .i64) (by rw [hw, mulN]; exact wrap_i64 (by omega) (by omega))) ?_
      refine qm rfl rfl ?_
      first | refine step_pure rfl (pure_add64 rfl rfl (by omega) (by omega)) ?_ | refine step_pure rfl (pure_add rfl rfl) ?_
      refine step_as rfl (pure_indexAddr_at rfl rfl rfl rfl rfl (by omega) (by omega)) (show _ = Value.pointer (some (p.add ((F * W + x) * 2))) from by show Value.pointer (some (p.add ((((F * W : Nat) : Int) + (x : Int)).toNat * 2))) = _; rw [show (((F * W : Nat) : Int) + (x : Int)).toNat = F * W + x by omega]) ?_
      refine step_pure rfl (pure_cel_agg (vs := [Value.int .i64 c.1, .int .i64 c.2]) rfl rfl rfl rfl (fun j v h => (q1 j v h).1)) ?_
      refine step_store_agg 0 rfl rfl rfl (of_one rfl) rfl rfl rfl rfl (Nat.le_of_ble_eq_true rfl) (show _ = [Value.int .i64 c.1, .int .i64 c.2] from rfl) ?_
      refine step_nil ?_
      exact less_of ⟨rfl, rfl, rfl, rfl, rfl, rfl, rfl, rfl, rfl, trivial⟩ rfl
     ·rw [htc, if_neg hf]
      repeat refine c_seq ?_
      refine c_cond_no rfl (decide_eq_false hf) ?_
      refine c_skip ?_
      exact less_of ⟨rfl, rfl, rfl, rfl, rfl, rfl, rfl, rfl, rfl, trivial⟩ rfl
    generalize T.getD (y * W + x) blC = c at *
    repeat refine s_seqs ?_
    refine s_reg ?_
    refine step_pure rfl (pure_fieldAddr rfl rfl rfl rfl rfl (by decide)) ?_
    first | refine step_pure rfl (pure_load (i := 0) rfl rfl rfl rfl rfl rfl) ?_ | refine step_pure rfl (pure_load (i := 1) rfl rfl rfl rfl rfl rfl) ?_ | refine step_pure rfl (pure_load (i := 2) rfl rfl rfl rfl rfl rfl) ?_ | refine step_pure rfl (pure_load (i := 3) rfl rfl rfl rfl rfl rfl) ?_ | refine step_pure rfl (pure_load (i := 4) rfl rfl rfl rfl rfl rfl) ?_ | refine step_pure rfl (pure_load (i := 5) rfl rfl rfl rfl rfl rfl) ?_
    refine qm rfl rfl ?_
    refine step_pure rfl (pure_fieldAddr rfl rfl rfl rfl rfl (by decide)) ?_
    first | refine step_pure rfl (pure_load (i := 0) rfl rfl rfl rfl rfl rfl) ?_ | refine step_pure rfl (pure_load (i := 1) rfl rfl rfl rfl rfl rfl) ?_ | refine step_pure rfl (pure_load (i := 2) rfl rfl rfl rfl rfl rfl) ?_ | refine step_pure rfl (pure_load (i := 3) rfl rfl rfl rfl rfl rfl) ?_ | refine step_pure rfl (pure_load (i := 4) rfl rfl rfl rfl rfl rfl) ?_ | refine step_pure rfl (pure_load (i := 5) rfl rfl rfl rfl rfl rfl) ?_
    refine step_as rfl (pure_mul rfl rfl) (show _ = Value.int .i64 ((y * W : Nat) : Int) from congrArg (Value.int .i64) (by rw [hw, mulN]; exact wrap_i64 (by omega) (by omega))) ?_
    refine qm rfl rfl ?_
    first | refine step_pure rfl (pure_add64 rfl rfl (by omega) (by omega)) ?_ | refine step_pure rfl (pure_add rfl rfl) ?_
    first | refine step_pure rfl (pure_load_agg (i := 0) rfl rfl rfl rfl rfl (by first | decide | exact Nat.le_of_ble_eq_true rfl) rfl) ?_ | refine step_pure rfl (pure_load_agg (i := 1) rfl rfl rfl rfl rfl (by first | decide | exact Nat.le_of_ble_eq_true rfl) rfl) ?_ | refine step_pure rfl (pure_load_agg (i := 2) rfl rfl rfl rfl rfl (by first | decide | exact Nat.le_of_ble_eq_true rfl) rfl) ?_ | refine step_pure rfl (pure_load_agg (i := 3) rfl rfl rfl rfl rfl (by first | decide | exact Nat.le_of_ble_eq_true rfl) rfl) ?_ | refine step_pure rfl (pure_load_agg (i := 4) rfl rfl rfl rfl rfl (by first | decide | exact Nat.le_of_ble_eq_true rfl) rfl) ?_ | refine step_pure rfl (pure_load_agg (i := 5) rfl rfl rfl rfl rfl (by first | decide | exact Nat.le_of_ble_eq_true rfl) rfl) ?_
    refine step_pure rfl (pure_ixs rfl rfl rfl rfl rfl (by omega) (by omega) (show 0 + (((y * W : Nat) : Int) + (x : Int)).toNat * 2 = 0 + (y * W + x) * 2 by omega)) ?_
    refine step_store_agg 2 rfl rfl rfl (of_one rfl) rfl rfl rfl rfl (by show 0 + (y * W + x) * 2 + 2 ≤ (ceR (mixL s.cells T (a * W) (y * W + x)) ++ tl).length; omega) (show _ = ceR (mixL s.cells T (a * W) (y * W + x + 1)) ++ tl from hsp) ?_
    refine Vc.step_end (fun a w ok => ?_)
    first | (refine WPs.run ?_ a w ok; clear ok w a) | skip
    repeat refine s_seqs ?_
    refine s_reg ?_
    refine qm rfl rfl ?_
    first | refine step_pure rfl (pure_add64 rfl rfl (by omega) (by omega)) ?_ | refine step_pure rfl (pure_add rfl rfl) ?_
    refine qa rfl rfl ?_
    refine Vc.step_end (fun a w ok => ?_)
    refine ⟨x + 1, _, by omega, by omega, Gt.refl _, Less.ok ?_ ok⟩
    exact less_sub ⟨rfl, rfl, rfl, rfl, rfl, rfl, rfl, rfl, trivial⟩ (by repeat (first | exact List.Sublist.refl _ | exact List.nil_sublist _ | apply List.Sublist.cons_cons | apply List.Sublist.cons))
   ·have hxw : x = W := by have := of_decide_eq_false h; omega
    subst hxw
    rw [← hyw2]
    refine s_exit fun a w ok => ?_
    refine ⟨(), E5, trivial, g5, Less.ok ?_ ok⟩
    exact less_of ⟨rfl, rfl, rfl, rfl, rfl, rfl, rfl, trivial⟩ rfl
  ·intro _ E5 _ g a w ok
   refine WPs.run ?_ a w ok
   clear ok w a
   repeat refine s_seqs ?_
   refine s_reg ?_
   refine qm rfl rfl ?_
   first | refine step_pure rfl (pure_add64 rfl rfl (by omega) (by omega)) ?_ | refine step_pure rfl (pure_add rfl rfl) ?_
   refine qa rfl rfl ?_
   refine Vc.step_end (fun a w ok => ?_)
   refine ⟨y + 1, E5, ⟨by omega, by omega⟩, by omega, g, Less.ok ?_ ok⟩
   exact less_of ⟨rfl, rfl, rfl, rfl, rfl, rfl, rfl, trivial⟩ rfl
 ·have hyb : y = b + 1 := by have := of_decide_eq_false h; omega
  rw [hyb, hTe]
  refine s_exit fun a w ok => WPs.run ?_ a w ok
  clear ok w a
  repeat refine s_seqs ?_
  refine s_reg ?_
  first | refine step_pure rfl (pure_load_agg (i := 0) rfl rfl rfl rfl rfl (by first | decide | exact Nat.le_of_ble_eq_true rfl) rfl) ?_ | refine step_pure rfl (pure_load_agg (i := 1) rfl rfl rfl rfl rfl (by first | decide | exact Nat.le_of_ble_eq_true rfl) rfl) ?_ | refine step_pure rfl (pure_load_agg (i := 2) rfl rfl rfl rfl rfl (by first | decide | exact Nat.le_of_ble_eq_true rfl) rfl) ?_ | refine step_pure rfl (pure_load_agg (i := 3) rfl rfl rfl rfl rfl (by first | decide | exact Nat.le_of_ble_eq_true rfl) rfl) ?_ | refine step_pure rfl (pure_load_agg (i := 4) rfl rfl rfl rfl rfl (by first | decide | exact Nat.le_of_ble_eq_true rfl) rfl) ?_ | refine step_pure rfl (pure_load_agg (i := 5) rfl rfl rfl rfl rfl (by first | decide | exact Nat.le_of_ble_eq_true rfl) rfl) ?_
  refine step_store_agg 2 rfl rfl rfl (scC_one s (some ⟨bc, 0, none⟩) a7 s.cells.length cap l7 c7) rfl rfl rfl rfl (Nat.le_of_ble_eq_true rfl) (show _ = scC { s with cells := T } (.slice (some ⟨bc, 0, none⟩) s.cells.length cap) (.slice a7 l7 c7) from rfl) ?_
  refine Vc.step_end (fun a w ok => ?_)
  first | (refine WPs.run ?_ a w ok; clear ok w a) | skip
  refine s_let 1 rfl (fun E6 g hcc => ?_)
  have hsl := slis_cz (sl_cells T tl bc cap (by rw [List.length_append, ceR_len, hTl]; rw [List.length_append, ceR_len] at htl; exact htl)) (hcc _ on.sc)
  rw [hTl] at hsl
  exact s_ret fun a w ok => ends_givesP (on.next g) (.inr rfl) ok (res_cell_agg (i := 1) Try.results41 rfl rfl rfl rfl rfl (Nat.le_of_ble_eq_true rfl) rfl) scR_mono ⟨_, rfl, _, _, rfl, by rw [hTl]; exact hsl, hm7.mono g.cz⟩
end Go.Proofs.Ytbcpgdjhomoghaa
