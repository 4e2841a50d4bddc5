/- The document's Chars: walked. -/
import Derived.Test.YtbcpgdjhomoghaaG28
namespace Go.Proofs.Ytbcpgdjhomoghaa
open Go.RowKit Go.Vc
set_option linter.unusedVariables false
theorem chars_cell {l : List Ce} {W y X x : Nat} {n : Int} (hin : (y + 1) * W ≤ l.length) (hX : X ≤ x) (hx : x < W) (hW : W ≤ 64) :
  (splice l (y * W + X) (moveL ((l.drop (y * W + X)).take (W - X)) (-clampI n (-(W : Int)) W))).getD (y * W + x) blC = if (X : Int) ≤ (x : Int) - cl100 n ∧ (x : Int) - cl100 n < W then l.getD (y * W + ((x : Int) - cl100 n).toNat) blC else blC := by
 have h4 : (y + 1) * W = y * W + W := by rw [Nat.add_mul, Nat.one_mul]
 have hsl : ((l.drop (y * W + X)).take (W - X)).length = W - X := by rw [List.length_take, List.length_drop]; omega
 rw [splice_getD _ _ _ _ (by rw [moveL_len, hsl]; omega), moveL_len, hsl, if_pos ⟨by omega, by omega⟩, moveL_get _ _ _ (by rw [hsl]; omega), hsl]
 obtain ⟨k, hk⟩ : ∃ k, k = clampI n (-(W : Int)) W := ⟨_, rfl⟩
 rw [← hk]
 by_cases hc : (X : Int) ≤ (x : Int) - k ∧ (x : Int) - k < W
 ·have hm : cl100 n = k := by rw [hk] at hc ⊢; unfold cl100 clampI at *; omega
  rw [hm, if_pos (by omega), if_pos hc, sub_get _ _ _ _ (by omega)]
  congr 1
  omega
 ·have hm : ¬ ((X : Int) ≤ (x : Int) - cl100 n ∧ (x : Int) - cl100 n < W) := by rw [hk] at hc; unfold cl100 clampI at *; omega
  rw [if_neg hm, if_neg (by omega)]
set_option maxHeartbeats 4000000 in
theorem rchars_P (s : Scr) (cs : List Value) (n : Int) (w : World) {Z : Nat → Prop} (hZ : ∀ j, w.heap.size ≤ j → Z j) (hs : ScV (At w) s cs) (h1 : s.cells.length ≤ maxLen) (h2 : s.main.length ≤ maxLen) :
  GivesP tb 20 [.agg cs.toArray, .int .i64 n] w Z (ScR (doF (charsF n) s)) := by
 have hmx : 4096 ≤ maxLen := by decide
 replace hs := scv_cz hs
 obtain ⟨v1, v2, rfl, hcs, hms⟩ := id hs
 obtain ⟨a1, c1, rfl, _⟩ := slc_sl hcs
 obtain ⟨a2, c2, rfl, _⟩ := slc_sl hms
 clear hms
 refine givesP_of (fn := Try.f20) Try.func20 rfl Try.ntmps20 rfl hZ scR_mono (fun on => ?_)
 repeat refine s_seqs ?_
 refine s_reg ?_
 refine step_box_agg rfl rfl (fun b2 => ?_)
 refine step_alloc rfl zero27 (fun b4 => ?_)
 refine Vc.step_end (fun a w ok => ?_)
 first | (refine WPs.run ?_ a w ok; clear ok w a) | skip
 repeat refine s_seqs ?_
 refine s_reg ?_
 first | refine step_pure rfl (pure_load_agg (i := 0) rfl rfl rfl rfl rfl (by first | decide | exact Nat.le_of_ble_eq_true rfl) rfl) ?_ | refine step_pure rfl (pure_load_agg (i := 1) rfl rfl rfl rfl rfl (by first | decide | exact Nat.le_of_ble_eq_true rfl) rfl) ?_ | refine step_pure rfl (pure_load_agg (i := 2) rfl rfl rfl rfl rfl (by first | decide | exact Nat.le_of_ble_eq_true rfl) rfl) ?_ | refine step_pure rfl (pure_load_agg (i := 3) rfl rfl rfl rfl rfl (by first | decide | exact Nat.le_of_ble_eq_true rfl) rfl) ?_ | refine step_pure rfl (pure_load_agg (i := 4) rfl rfl rfl rfl rfl (by first | decide | exact Nat.le_of_ble_eq_true rfl) rfl) ?_ | refine step_pure rfl (pure_load_agg (i := 5) rfl rfl rfl rfl rfl (by first | decide | exact Nat.le_of_ble_eq_true rfl) rfl) ?_
 refine step_wm [] _ on.sc rfl fun37 rfl (List.Perm.refl _) (fun w' Z' hh kp h0 hZ hZ0 hC => rcopy_W s _ w' hZ (hs.mono (Cz.now kp)) h1 h2) ?_
 rintro u m1 E3 g ⟨base, cap, a7, l7, c7, e, rfl, rfl, hse, hm7⟩
 replace on := on.next g
 replace hs := hs.mono g.cz
 replace hcs := hcs.mono g.cz
 clear g
 refine step_alloc rfl zero27 (fun b5 => ?_)
 refine step_store_agg 0 rfl rfl rfl (scC_one (doI s) base a7 (doI s).cells.length cap l7 c7) rfl rfl rfl rfl (Nat.le_of_ble_eq_true rfl) (show _ = scC (doI s) (.slice base (doI s).cells.length cap) (.slice a7 l7 c7) from rfl) ?_
 refine Vc.step_end (fun a w ok => ?_)
 first | (refine WPs.run ?_ a w ok; clear ok w a) | skip
 have hck := fun w' (kp : Keep E3.w0 w' E3.ws) => rcheck_any s _ w' (hs.mono (Cz.now kp)) h1 h2
 unfold ckE at hck
 cases hok : scOk s with
 | false =>
  rw [hok, if_neg (by decide)] at hck
  have hdi : doI s = zScr := by unfold doI; rw [hok]; rfl
  rw [show doF (charsF n) s = doI s from by unfold doF; rw [hok, hdi]; rfl]
  repeat refine s_seqs ?_
  refine s_reg ?_
  first | refine step_pure rfl (pure_load_agg (i := 0) rfl rfl rfl rfl rfl (by first | decide | exact Nat.le_of_ble_eq_true rfl) rfl) ?_ | refine step_pure rfl (pure_load_agg (i := 1) rfl rfl rfl rfl rfl (by first | decide | exact Nat.le_of_ble_eq_true rfl) rfl) ?_ | refine step_pure rfl (pure_load_agg (i := 2) rfl rfl rfl rfl rfl (by first | decide | exact Nat.le_of_ble_eq_true rfl) rfl) ?_ | refine step_pure rfl (pure_load_agg (i := 3) rfl rfl rfl rfl rfl (by first | decide | exact Nat.le_of_ble_eq_true rfl) rfl) ?_ | refine step_pure rfl (pure_load_agg (i := 4) rfl rfl rfl rfl rfl (by first | decide | exact Nat.le_of_ble_eq_true rfl) rfl) ?_ | refine step_pure rfl (pure_load_agg (i := 5) rfl rfl rfl rfl rfl (by first | decide | exact Nat.le_of_ble_eq_true rfl) rfl) ?_
  refine step_gives rfl fun38 rfl (fun w' hh kp => hck w' kp) ?_
  refine step_pure rfl (pure_neq rfl rfl) ?_
  refine Vc.step_end (fun a w ok => ?_)
  first | (refine WPs.run ?_ a w ok; clear ok w a) | skip
  repeat refine s_seqs ?_
  refine s_cond_yes rfl rfl ?_
  repeat refine s_seqs ?_
  refine s_reg ?_
  first | refine step_pure rfl (pure_load_agg (i := 0) rfl rfl rfl rfl rfl (by first | decide | exact Nat.le_of_ble_eq_true rfl) rfl) ?_ | refine step_pure rfl (pure_load_agg (i := 1) rfl rfl rfl rfl rfl (by first | decide | exact Nat.le_of_ble_eq_true rfl) rfl) ?_ | refine step_pure rfl (pure_load_agg (i := 2) rfl rfl rfl rfl rfl (by first | decide | exact Nat.le_of_ble_eq_true rfl) rfl) ?_ | refine step_pure rfl (pure_load_agg (i := 3) rfl rfl rfl rfl rfl (by first | decide | exact Nat.le_of_ble_eq_true rfl) rfl) ?_ | refine step_pure rfl (pure_load_agg (i := 4) rfl rfl rfl rfl rfl (by first | decide | exact Nat.le_of_ble_eq_true rfl) rfl) ?_ | refine step_pure rfl (pure_load_agg (i := 5) rfl rfl rfl rfl rfl (by first | decide | exact Nat.le_of_ble_eq_true rfl) rfl) ?_
  refine step_store_agg 2 rfl rfl rfl (scC_one (doI s) base a7 (doI s).cells.length cap l7 c7) rfl rfl rfl rfl (Nat.le_of_ble_eq_true rfl) (show _ = scC (doI s) (.slice base (doI s).cells.length cap) (.slice a7 l7 c7) from rfl) ?_
  refine Vc.step_end (fun a w ok => ?_)
  first | (refine WPs.run ?_ a w ok; clear ok w a) | skip
  refine s_let 1 rfl (fun E6 g hcc => ?_)
  exact s_ret fun a w ok => ends_givesP (on.next g) (.inr rfl) ok (res_cell_agg (i := 1) Try.results20 rfl rfl rfl rfl rfl (Nat.le_of_ble_eq_true rfl) rfl) scR_mono ⟨_, rfl, _, _, rfl, slis_cz hse (hcc _ on.sc), hm7.mono g.cz⟩
 | true =>
  have hoks := (scOk_iff s).1 hok
  rw [hok, if_pos rfl] at hck
  rw [doI_yes hoks] at hse hm7 ⊢
  obtain ⟨W, q, hw, hq, hw1, hw2, hq1, hq2, hl, hle⟩ := wh_nat hoks
  have hxx := hoks.x
  have hyy := hoks.y
  obtain ⟨X, hX⟩ : ∃ k : Nat, s.X = k := ⟨s.X.toNat, by omega⟩
  obtain ⟨y, hy⟩ : ∃ k : Nat, s.Y = k := ⟨s.Y.toNat, by omega⟩
  have hpos := cells_pos hoks
  have hin2 : (y + 1) * W ≤ s.cells.length := by rw [hl, Nat.mul_comm W q]; exact Nat.mul_le_mul_right _ (by omega)
  have hyw2 : (y + 1) * W = y * W + W := by rw [Nat.add_mul, Nat.one_mul]
  have hT : charsF n s = { s with cells := splice s.cells (y * W + X) (moveL ((s.cells.drop (y * W + X)).take (W - X)) (-clampI n (-(W : Int)) W)) } := by
   unfold charsF
   rw [show (s.Y * s.W + s.X).toNat = y * W + X by rw [hy, hw, hX, mulN]; omega, show (s.W - s.X).toNat = W - X by omega, hw]
  rw [show doF (charsF n) s = charsF n s from by unfold doF; rw [hok]; rfl, hT]
  clear hT
  have hTc := fun (x : Nat) (h3 : X ≤ x) (h4 : x < W) => chars_cell (l := s.cells) (W := W) (y := y) (X := X) (x := x) (n := n) hin2 h3 h4 hw2
  have hsl : ((s.cells.drop (y * W + X)).take (W - X)).length = W - X := by rw [List.length_take, List.length_drop]; omega
  have hTl : (splice s.cells (y * W + X) (moveL ((s.cells.drop (y * W + X)).take (W - X)) (-clampI n (-(W : Int)) W))).length = s.cells.length := splice_len (by rw [moveL_len, hsl]; omega)
  have hTe : mixL s.cells (splice s.cells (y * W + X) (moveL ((s.cells.drop (y * W + X)).take (W - X)) (-clampI n (-(W : Int)) W))) (y * W + X) (y * W + W) = splice s.cells (y * W + X) (moveL ((s.cells.drop (y * W + X)).take (W - X)) (-clampI n (-(W : Int)) W)) := mixL_end hTl fun i hi hn => by
   rw [splice_getD _ _ _ _ (by rw [moveL_len, hsl]; omega), moveL_len, hsl, if_neg (by omega)]
  generalize splice s.cells (y * W + X) (moveL ((s.cells.drop (y * W + X)).take (W - X)) (-clampI n (-(W : Int)) W)) = T at *
  obtain ⟨bc, tl, rfl, rfl, htl, hcap⟩ := slis_ce hse hpos
  clear hse
  repeat refine s_seqs ?_
  refine s_reg ?_
  first | refine step_pure rfl (pure_load_agg (i := 0) rfl rfl rfl rfl rfl (by first | decide | exact Nat.le_of_ble_eq_true rfl) rfl) ?_ | refine step_pure rfl (pure_load_agg (i := 1) rfl rfl rfl rfl rfl (by first | decide | exact Nat.le_of_ble_eq_true rfl) rfl) ?_ | refine step_pure rfl (pure_load_agg (i := 2) rfl rfl rfl rfl rfl (by first | decide | exact Nat.le_of_ble_eq_true rfl) rfl) ?_ | refine step_pure rfl (pure_load_agg (i := 3) rfl rfl rfl rfl rfl (by first | decide | exact Nat.le_of_ble_eq_true rfl) rfl) ?_ | refine step_pure rfl (pure_load_agg (i := 4) rfl rfl rfl rfl rfl (by first | decide | exact Nat.le_of_ble_eq_true rfl) rfl) ?_ | refine step_pure rfl (pure_load_agg (i := 5) rfl rfl rfl rfl rfl (by first | decide | exact Nat.le_of_ble_eq_true rfl) rfl) ?_
  refine step_gives rfl fun38 rfl (fun w' hh kp => hck w' kp) ?_
  refine step_pure rfl (pure_neq rfl rfl) ?_
  refine Vc.step_end (fun a w ok => ?_)
  first | (refine WPs.run ?_ a w ok; clear ok w a) | skip
  repeat refine s_seqs ?_
  refine s_cond_no rfl rfl ?_
  refine s_skip fun a w ok => WPs.run ?_ a w ok
  clear ok w a
  clear hck hs
  repeat refine s_seqs ?_
  refine s_reg ?_
  refine step_pure rfl (pure_fieldAddr rfl rfl rfl rfl rfl (by decide)) ?_
  refine step_as rfl (pure_load (i := 3) rfl rfl rfl rfl rfl rfl) (show _ = Value.int .i64 (X : Int) from congrArg (Value.int .i64) hX) ?_
  refine qa rfl rfl ?_
  refine Vc.step_end (fun a w ok => ?_)
  first | (refine WPs.run ?_ a w ok; clear ok w a) | skip
  repeat refine s_seqs ?_
  refine s_block ?_
  repeat refine s_seqs ?_
  refine s_loopP (α := Nat) (fun x => [(1, .int .i64 n), (2, .pointer (some ⟨b2, 0, none⟩)), (4, .pointer (some ⟨b4, 0, none⟩)), (5, .pointer (some ⟨b5, 0, none⟩)), (6, .int .i64 x)]) (fun x => [⟨b5, scC s (.slice (some ⟨bc, 0, none⟩) s.cells.length cap) (.slice a7 l7 c7), tSc⟩, ⟨bc, ceR (mixL s.cells T (y * W + X) (y * W + x)) ++ tl, tC⟩, ⟨b4, scC zScr (.slice none 0 0) (.slice none 0 0), tSc⟩, ⟨b2, scC s (.slice a1 s.cells.length c1) (.slice a2 s.main.length c2), tSc⟩]) (fun x _ => X ≤ x ∧ x ≤ W) (fun x => W - x) X ⟨Nat.le_refl _, by omega⟩ (less_of ⟨rfl, rfl, rfl, rfl, rfl, trivial⟩ (by rw [mixL_start]; rfl)) ?_
  rintro x E5 ⟨hx1, hx2⟩ g
  replace on := on.next g
  replace hcs := hcs.mono g.cz
  replace hm7 := hm7.mono g.cz
  clear g
  repeat refine s_seqs ?_
  refine s_reg ?_
  refine qm rfl rfl ?_
  refine step_pure rfl (pure_fieldAddr rfl rfl rfl rfl rfl (by decide)) ?_
  first | refine step_pure rfl (pure_load (i := 0) rfl rfl rfl rfl rfl rfl) ?_ | refine step_pure rfl (pure_load (i := 1) rfl rfl rfl rfl rfl rfl) ?_ | refine step_pure rfl (pure_load (i := 2) rfl rfl rfl rfl rfl rfl) ?_ | refine step_pure rfl (pure_load (i := 3) rfl rfl rfl rfl rfl rfl) ?_ | refine step_pure rfl (pure_load (i := 4) rfl rfl rfl rfl rfl rfl) ?_ | refine step_pure rfl (pure_load (i := 5) rfl rfl rfl rfl rfl rfl) ?_
  refine step_pure rfl (pure_lss rfl rfl) ?_
  refine Vc.step_end (fun a w ok => ?_)
  first | (refine WPs.run ?_ a w ok; clear ok w a) | skip
  repeat refine s_seqs ?_
  refine s_cond rfl (fun h => ?_) (fun h => ?_)
  ·have hxw : x < W := by have := of_decide_eq_true h; omega
   clear h
   refine s_skip fun a w ok => WPs.run ?_ a w ok
   clear ok w a
   repeat refine s_seqs ?_
   refine s_block ?_
   have htc := hTc x hx1 hxw
   have hmxs := mixL_set (l := s.cells) (T := T) (o := y * W + X) (j := y * W + x) (by omega) (by omega)
   have hmxl := mixL_len s.cells T (y * W + X) (y * W + x)
   have hcl : (ceR (mixL s.cells T (y * W + X) (y * W + x)) ++ tl).length = s.cells.length * 2 + tl.length := by rw [List.length_append, ceR_len, hmxl]
   have hpl : Plc (mixL s.cells T (y * W + X) (y * W + x)) (0 + (y * W + x) * 2) (y * W + x) 1 := ⟨fun _ => by omega, by omega, by omega⟩
   have hsp := plc_wr (x := [T.getD (y * W + x) blC]) (tl := tl) hpl rfl
   rw [show splice (mixL s.cells T (y * W + X) (y * W + x)) (y * W + x) [T.getD (y * W + x) blC] = mixL s.cells T (y * W + X) (y * W + x + 1) from (splice_one (by omega)).trans hmxs] at hsp
   have hcl100 : -100 ≤ cl100 n ∧ cl100 n ≤ 100 := by unfold cl100; omega
   repeat refine s_seqs ?_
   refine s_reg ?_
   refine step_pure rfl (pure_build_struct (pl := [(0, 1), (1, 1)]) rfl zero33 rfl rfl rfl rfl) ?_
   refine step_alloc rfl zero33 (fun b7 => ?_)
   first | refine step_store_agg 0 rfl rfl rfl (by decide) rfl rfl rfl rfl (by decide) rfl ?_ | refine step_store_agg 1 rfl rfl rfl (by decide) rfl rfl rfl rfl (by decide) rfl ?_ | refine step_store_agg 2 rfl rfl rfl (by decide) rfl rfl rfl rfl (by decide) rfl ?_ | refine step_store_agg 3 rfl rfl rfl (by decide) rfl rfl rfl rfl (by decide) rfl ?_ | refine step_store_agg 4 rfl rfl rfl (by decide) rfl rfl rfl rfl (by decide) rfl ?_ | refine step_store_agg 5 rfl rfl rfl (by decide) rfl rfl rfl rfl (by decide) rfl ?_ | refine step_store_agg 0 rfl rfl rfl (of_one rfl) rfl rfl rfl rfl (Nat.le_of_ble_eq_true rfl) rfl ?_ | refine step_store_agg 1 rfl rfl rfl (of_one rfl) rfl rfl rfl rfl (Nat.le_of_ble_eq_true rfl) rfl ?_ | refine step_store_agg 2 rfl rfl rfl (of_one rfl) rfl rfl rfl rfl (Nat.le_of_ble_eq_true rfl) rfl ?_ | refine step_store_agg 3 rfl rfl rfl (of_one rfl) rfl rfl rfl rfl (Nat.le_of_ble_eq_true rfl) rfl ?_ | refine step_store_agg 4 rfl rfl rfl (of_one rfl) rfl rfl rfl rfl (Nat.le_of_ble_eq_true rfl) rfl ?_ | refine step_store_agg 5 rfl rfl rfl (of_one rfl) rfl rfl rfl rfl (Nat.le_of_ble_eq_true rfl) rfl ?_
   refine Vc.step_end (fun a w ok => ?_)
   first | (refine WPs.run ?_ a w ok; clear ok w a) | skip
   repeat refine s_seqs ?_
   refine s_reg ?_
   refine qm rfl rfl ?_
   refine qm rfl rfl ?_
   refine step_pure rfl (pure_max rfl rfl) ?_
   refine step_pure rfl (pure_min rfl rfl) ?_
   refine step_as rfl (pure_sub rfl rfl) (show _ = Value.int .i64 ((x : Int) - cl100 n) from congrArg (Value.int .i64) (wrap_i64 (by show _ ≤ (x : Int) - cl100 n; omega) (by show (x : Int) - cl100 n ≤ _; omega))) ?_
   refine qa rfl rfl ?_
   refine Vc.step_end (fun a w ok => ?_)
   first | (refine WPs.run ?_ a w ok; clear ok w a) | skip
   generalize (x : Int) - cl100 n = f at *
   repeat refine s_seqs ?_
   refine s_meet [(1, .int .i64 n), (2, .pointer (some ⟨b2, 0, none⟩)), (4, .pointer (some ⟨b4, 0, none⟩)), (5, .pointer (some ⟨b5, 0, none⟩)), (6, .int .i64 x), (7, .pointer (some ⟨b7, 0, none⟩)), (8, .int .i64 f), (38, .bool (decide (s.X ≤ f ∧ f < s.W)))] (⟨b7, [.int .i64 32, .int .i64 0], tC⟩ :: [⟨b5, scC s (.slice (some ⟨bc, 0, none⟩) s.cells.length cap) (.slice a7 l7 c7), tSc⟩, ⟨bc, ceR (mixL s.cells T (y * W + X) (y * W + x)) ++ tl, tC⟩, ⟨b4, scC zScr (.slice none 0 0) (.slice none 0 0), tSc⟩, ⟨b2, scC s (.slice a1 s.cells.length c1) (.slice a2 s.main.length c2), tSc⟩]) ?_ (fun a9 w9 ok9 => WPs.run ?_ a9 w9 ok9)
   ·clear htc hmxs hmxl hcl hpl hsp hcs hTc hTe
    repeat refine c_seq ?_
    refine c_region ?_
    refine qm rfl rfl ?_
    refine step_pure rfl (pure_fieldAddr rfl rfl rfl rfl rfl (by decide)) ?_
    first | refine step_pure rfl (pure_load (i := 0) rfl rfl rfl rfl rfl rfl) ?_ | refine step_pure rfl (pure_load (i := 1) rfl rfl rfl rfl rfl rfl) ?_ | refine step_pure rfl (pure_load (i := 2) rfl rfl rfl rfl rfl rfl) ?_ | refine step_pure rfl (pure_load (i := 3) rfl rfl rfl rfl rfl rfl) ?_ | refine step_pure rfl (pure_load (i := 4) rfl rfl rfl rfl rfl rfl) ?_ | refine step_pure rfl (pure_load (i := 5) rfl rfl rfl rfl rfl rfl) ?_
    refine step_pure rfl (pure_geq rfl rfl) ?_
    refine qm rfl rfl ?_
    refine step_split (t := 33) rfl (fun h33 => ?_) (fun h33 => ?_)
    ·refine qm rfl rfl ?_
     refine step_pure rfl (pure_fieldAddr rfl rfl rfl rfl rfl (by decide)) ?_
     first | refine step_pure rfl (pure_load (i := 0) rfl rfl rfl rfl rfl rfl) ?_ | refine step_pure rfl (pure_load (i := 1) rfl rfl rfl rfl rfl rfl) ?_ | refine step_pure rfl (pure_load (i := 2) rfl rfl rfl rfl rfl rfl) ?_ | refine step_pure rfl (pure_load (i := 3) rfl rfl rfl rfl rfl rfl) ?_ | refine step_pure rfl (pure_load (i := 4) rfl rfl rfl rfl rfl rfl) ?_ | refine step_pure rfl (pure_load (i := 5) rfl rfl rfl rfl rfl rfl) ?_
     refine step_pure rfl (pure_lss rfl rfl) ?_
     refine step_pure rfl (pure_pick_yes rfl rfl) ?_
     refine step_nil ?_
     refine less_of ⟨rfl, rfl, rfl, rfl, rfl, rfl, rfl, ?_, trivial⟩ rfl
     refine congrArg some (congrArg Value.bool ?_)
     clear hxx hyy hX hy hw hq
     rw [Bool.eq_iff_iff]
     simp_all
     try omega
    ·refine qp rfl rfl rfl ?_
     refine qp rfl rfl rfl ?_
     refine qp rfl rfl rfl ?_
     refine qp rfl rfl rfl ?_
     refine step_pure rfl (pure_pick_no rfl rfl) ?_
     refine step_nil ?_
     refine less_of ⟨rfl, rfl, rfl, rfl, rfl, rfl, rfl, ?_, trivial⟩ rfl
     refine congrArg some (congrArg Value.bool ?_)
     clear hxx hyy hX hy hw hq
     rw [Bool.eq_iff_iff]
     simp_all
     try omega
   repeat refine s_seqs ?_
   refine s_meet [(1, .int .i64 n), (2, .pointer (some ⟨b2, 0, none⟩)), (4, .pointer (some ⟨b4, 0, none⟩)), (5, .pointer (some ⟨b5, 0, none⟩)), (6, .int .i64 x), (7, .pointer (some ⟨b7, 0, none⟩))] (⟨b7, [.int .i64 (T.getD (y * W + x) blC).1, .int .i64 (T.getD (y * W + x) blC).2], tC⟩ :: [⟨b5, scC s (.slice (some ⟨bc, 0, none⟩) s.cells.length cap) (.slice a7 l7 c7), tSc⟩, ⟨bc, ceR (mixL s.cells T (y * W + X) (y * W + x)) ++ tl, tC⟩, ⟨b4, scC zScr (.slice none 0 0) (.slice none 0 0), tSc⟩, ⟨b2, scC s (.slice a1 s.cells.length c1) (.slice a2 s.main.length c2), tSc⟩]) ?_ (fun a9 w9 ok9 => WPs.run ?_ a9 w9 ok9)
   ·by_cases hf : s.X ≤ f ∧ f < s.W
    ·have hf2 : (X : Int) ≤ f ∧ f < W := by omega
     rw [htc, if_pos hf2]
     obtain ⟨F, rfl⟩ : ∃ k : Nat, f = k := ⟨f.toNat, by omega⟩
     rw [Int.toNat_natCast]
     obtain ⟨p, k, e1, q1⟩ := slc_ce hcs (show y * W + F < s.cells.length by omega)
     cases e1
     generalize s.cells.getD (y * W + F) blC = c at *
     repeat refine c_seq ?_
     refine c_cond_yes rfl (decide_eq_true hf) ?_
     repeat refine c_seq ?_
     refine c_region ?_
     refine step_pure rfl (pure_fieldAddr rfl rfl rfl rfl rfl (by decide)) ?_
     first | refine step_pure rfl (pure_load (i := 0) rfl rfl rfl rfl rfl rfl) ?_ | refine step_pure rfl (pure_load (i := 1) rfl rfl rfl rfl rfl rfl) ?_ | refine step_pure rfl (pure_load (i := 2) rfl rfl rfl rfl rfl rfl) ?_ | refine step_pure rfl (pure_load (i := 3) rfl rfl rfl rfl rfl rfl) ?_ | refine step_pure rfl (pure_load (i := 4) rfl rfl rfl rfl rfl rfl) ?_ | refine step_pure rfl (pure_load (i := 5) rfl rfl rfl rfl rfl rfl) ?_
     refine step_pure rfl (pure_fieldAddr rfl rfl rfl rfl rfl (by decide)) ?_
     first | refine step_pure rfl (pure_load (i := 0) rfl rfl rfl rfl rfl rfl) ?_ | refine step_pure rfl (pure_load (i := 1) rfl rfl rfl rfl rfl rfl) ?_ | refine step_pure rfl (pure_load (i := 2) rfl rfl rfl rfl rfl rfl) ?_ | refine step_pure rfl (pure_load (i := 3) rfl rfl rfl rfl rfl rfl) ?_ | refine step_pure rfl (pure_load (i := 4) rfl rfl rfl rfl rfl rfl) ?_ | refine step_pure rfl (pure_load (i := 5) rfl rfl rfl rfl rfl rfl) ?_
     refine step_pure rfl (pure_fieldAddr rfl rfl rfl rfl rfl (by decide)) ?_
     first | refine step_pure rfl (pure_load (i := 0) rfl rfl rfl rfl rfl rfl) ?_ | refine step_pure rfl (pure_load (i := 1) rfl rfl rfl rfl rfl rfl) ?_ | refine step_pure rfl (pure_load (i := 2) rfl rfl rfl rfl rfl rfl) ?_ | refine step_pure rfl (pure_load (i := 3) rfl rfl rfl rfl rfl rfl) ?_ | refine step_pure rfl (pure_load (i := 4) rfl rfl rfl rfl rfl rfl) ?_ | refine step_pure rfl (pure_load (i := 5) rfl rfl rfl rfl rfl rfl) ?_
     refine step_as rfl (pure_mul rfl rfl) (show _ = Value.int .i64 ((y * W : Nat) : Int) from congrArg (Value.int .i64) (by rw [hy, hw, mulN]; exact wrap_i64 (by omega) (by omega))) ?_
     refine qm rfl rfl ?_
     first | refine step_pure rfl (pure_add64 rfl rfl (by omega) (by omega)) ?_ | refine step_pure rfl (pure_add rfl rfl) ?_
     refine step_as rfl (pure_indexAddr_at rfl rfl rfl rfl rfl (by omega) (by omega)) (show _ = Value.pointer (some (p.add ((y * W + F) * 2))) from by show Value.pointer (some (p.add ((((y * W : Nat) : Int) + (F : Int)).toNat * 2))) = _; rw [show (((y * W : Nat) : Int) + (F : Int)).toNat = y * W + F by omega]) ?_
     refine step_pure rfl (pure_cel_agg (vs := [Value.int .i64 c.1, .int .i64 c.2]) rfl rfl rfl rfl (fun j v h => (q1 j v h).1)) ?_
     refine step_store_agg 0 rfl rfl rfl (of_one rfl) rfl rfl rfl rfl (Nat.le_of_ble_eq_true rfl) (show _ = [Value.int .i64 c.1, .int .i64 c.2] from rfl) ?_
     refine step_nil ?_
     exact less_of ⟨rfl, rfl, rfl, rfl, rfl, rfl, trivial⟩ rfl
    ·have hf2 : ¬ ((X : Int) ≤ f ∧ f < W) := by omega
     rw [htc, if_neg hf2]
     repeat refine c_seq ?_
     refine c_cond_no rfl (decide_eq_false hf) ?_
     refine c_skip ?_
     exact less_of ⟨rfl, rfl, rfl, rfl, rfl, rfl, trivial⟩ rfl
   generalize T.getD (y * W + x) blC = c at *
   repeat refine s_seqs ?_
   refine s_reg ?_
   refine step_pure rfl (pure_fieldAddr rfl rfl rfl rfl rfl (by decide)) ?_
   first | refine step_pure rfl (pure_load (i := 0) rfl rfl rfl rfl rfl rfl) ?_ | refine step_pure rfl (pure_load (i := 1) rfl rfl rfl rfl rfl rfl) ?_ | refine step_pure rfl (pure_load (i := 2) rfl rfl rfl rfl rfl rfl) ?_ | refine step_pure rfl (pure_load (i := 3) rfl rfl rfl rfl rfl rfl) ?_ | refine step_pure rfl (pure_load (i := 4) rfl rfl rfl rfl rfl rfl) ?_ | refine step_pure rfl (pure_load (i := 5) rfl rfl rfl rfl rfl rfl) ?_
   refine step_pure rfl (pure_fieldAddr rfl rfl rfl rfl rfl (by decide)) ?_
   first | refine step_pure rfl (pure_load (i := 0) rfl rfl rfl rfl rfl rfl) ?_ | refine step_pure rfl (pure_load (i := 1) rfl rfl rfl rfl rfl rfl) ?_ | refine step_pure rfl (pure_load (i := 2) rfl rfl rfl rfl rfl rfl) ?_ | refine step_pure rfl (pure_load (i := 3) rfl rfl rfl rfl rfl rfl) ?_ | refine step_pure rfl (pure_load (i := 4) rfl rfl rfl rfl rfl rfl) ?_ | refine step_pure rfl (pure_load (i := 5) rfl rfl rfl rfl rfl rfl) ?_
   refine step_pure rfl (pure_fieldAddr rfl rfl rfl rfl rfl (by decide)) ?_
   first | refine step_pure rfl (pure_load (i := 0) rfl rfl rfl rfl rfl rfl) ?_ | refine step_pure rfl (pure_load (i := 1) rfl rfl rfl rfl rfl rfl) ?_ | refine step_pure rfl (pure_load (i := 2) rfl rfl rfl rfl rfl rfl) ?_ | refine step_pure rfl (pure_load (i := 3) rfl rfl rfl rfl rfl rfl) ?_ | refine step_pure rfl (pure_load (i := 4) rfl rfl rfl rfl rfl rfl) ?_ | refine step_pure rfl (pure_load (i := 5) rfl rfl rfl rfl rfl rfl) ?_
   refine step_as rfl (pure_mul rfl rfl) (show _ = Value.int .i64 ((y * W : Nat) : Int) from congrArg (Value.int .i64) (by rw [hy, hw, mulN]; exact wrap_i64 (by omega) (by omega))) ?_
   refine qm rfl rfl ?_
   first | refine step_pure rfl (pure_add64 rfl rfl (by omega) (by omega)) ?_ | refine step_pure rfl (pure_add rfl rfl) ?_
   first | refine step_pure rfl (pure_load_agg (i := 0) rfl rfl rfl rfl rfl (by first | decide | exact Nat.le_of_ble_eq_true rfl) rfl) ?_ | refine step_pure rfl (pure_load_agg (i := 1) rfl rfl rfl rfl rfl (by first | decide | exact Nat.le_of_ble_eq_true rfl) rfl) ?_ | refine step_pure rfl (pure_load_agg (i := 2) rfl rfl rfl rfl rfl (by first | decide | exact Nat.le_of_ble_eq_true rfl) rfl) ?_ | refine step_pure rfl (pure_load_agg (i := 3) rfl rfl rfl rfl rfl (by first | decide | exact Nat.le_of_ble_eq_true rfl) rfl) ?_ | refine step_pure rfl (pure_load_agg (i := 4) rfl rfl rfl rfl rfl (by first | decide | exact Nat.le_of_ble_eq_true rfl) rfl) ?_ | refine step_pure rfl (pure_load_agg (i := 5) rfl rfl rfl rfl rfl (by first | decide | exact Nat.le_of_ble_eq_true rfl) rfl) ?_
   refine step_pure rfl (pure_ixs rfl rfl rfl rfl rfl (by omega) (by omega) (show 0 + (((y * W : Nat) : Int) + (x : Int)).toNat * 2 = 0 + (y * W + x) * 2 by omega)) ?_
   refine step_store_agg 2 rfl rfl rfl (of_one rfl) rfl rfl rfl rfl (by show 0 + (y * W + x) * 2 + 2 ≤ (ceR (mixL s.cells T (y * W + X) (y * W + x)) ++ tl).length; omega) (show _ = ceR (mixL s.cells T (y * W + X) (y * W + x + 1)) ++ tl from hsp) ?_
   refine Vc.step_end (fun a w ok => ?_)
   first | (refine WPs.run ?_ a w ok; clear ok w a) | skip
   repeat refine s_seqs ?_
   refine s_reg ?_
   refine qm rfl rfl ?_
   first | refine step_pure rfl (pure_add64 rfl rfl (by omega) (by omega)) ?_ | refine step_pure rfl (pure_add rfl rfl) ?_
   refine qa rfl rfl ?_
   refine Vc.step_end (fun a w ok => ?_)
   refine ⟨x + 1, _, ⟨by omega, by omega⟩, by omega, Gt.refl _, Less.ok ?_ ok⟩
   exact less_sub ⟨rfl, rfl, rfl, rfl, rfl, trivial⟩ (by repeat (first | exact List.Sublist.refl _ | exact List.nil_sublist _ | apply List.Sublist.cons_cons | apply List.Sublist.cons))
  ·have hxw : x = W := by have := of_decide_eq_false h; omega
   rw [hxw, hTe]
   refine s_exit fun a w ok => WPs.run ?_ a w ok
   clear ok w a
   repeat refine s_seqs ?_
   refine s_reg ?_
   first | refine step_pure rfl (pure_load_agg (i := 0) rfl rfl rfl rfl rfl (by first | decide | exact Nat.le_of_ble_eq_true rfl) rfl) ?_ | refine step_pure rfl (pure_load_agg (i := 1) rfl rfl rfl rfl rfl (by first | decide | exact Nat.le_of_ble_eq_true rfl) rfl) ?_ | refine step_pure rfl (pure_load_agg (i := 2) rfl rfl rfl rfl rfl (by first | decide | exact Nat.le_of_ble_eq_true rfl) rfl) ?_ | refine step_pure rfl (pure_load_agg (i := 3) rfl rfl rfl rfl rfl (by first | decide | exact Nat.le_of_ble_eq_true rfl) rfl) ?_ | refine step_pure rfl (pure_load_agg (i := 4) rfl rfl rfl rfl rfl (by first | decide | exact Nat.le_of_ble_eq_true rfl) rfl) ?_ | refine step_pure rfl (pure_load_agg (i := 5) rfl rfl rfl rfl rfl (by first | decide | exact Nat.le_of_ble_eq_true rfl) rfl) ?_
   refine step_store_agg 2 rfl rfl rfl (scC_one s (some ⟨bc, 0, none⟩) a7 s.cells.length cap l7 c7) rfl rfl rfl rfl (Nat.le_of_ble_eq_true rfl) (show _ = scC { s with cells := T } (.slice (some ⟨bc, 0, none⟩) s.cells.length cap) (.slice a7 l7 c7) from rfl) ?_
   refine Vc.step_end (fun a w ok => ?_)
   first | (refine WPs.run ?_ a w ok; clear ok w a) | skip
   refine s_let 1 rfl (fun E6 g hcc => ?_)
   have hsl := slis_cz (sl_cells T tl bc cap (by rw [List.length_append, ceR_len, hTl]; rw [List.length_append, ceR_len] at htl; exact htl)) (hcc _ on.sc)
   rw [hTl] at hsl
   exact s_ret fun a w ok => ends_givesP (on.next g) (.inr rfl) ok (res_cell_agg (i := 1) Try.results20 rfl rfl rfl rfl rfl (Nat.le_of_ble_eq_true rfl) rfl) scR_mono ⟨_, rfl, _, _, rfl, by rw [hTl]; exact hsl, hm7.mono g.cz⟩
end Go.Proofs.Ytbcpgdjhomoghaa
