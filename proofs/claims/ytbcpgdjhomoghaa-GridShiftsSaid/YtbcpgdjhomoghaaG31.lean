/- The document's Resize: walked. -/
import Derived.Test.YtbcpgdjhomoghaaG30
namespace Go.Proofs.Ytbcpgdjhomoghaa
open Go.RowKit Go.Vc
set_option linter.unusedVariables false
theorem rsized_I (l : List Ce) (v : Value) (was had W H : Int) (w : World) {Z : Nat → Prop} (hZ : ∀ j, w.heap.size ≤ j → Z j) (hv : SlC (At w) 2 v l.length (ceR l)) (hl : (l.length : Int) = was * had)
  (h1 : 1 ≤ was ∧ was ≤ 64) (h2 : 1 ≤ had ∧ had ≤ 64) (h3 : 1 ≤ W ∧ W ≤ 64) (h4 : 1 ≤ H ∧ H ≤ 64) :
  Wm tb 40 [v, .int .i64 was, .int .i64 had, .int .i64 W, .int .i64 H] w Z [] (OcR (sizedL l was.toNat had.toNat W.toNat H.toNat)) := by
 obtain ⟨a, rfl⟩ : ∃ k : Nat, was = k := ⟨was.toNat, by omega⟩
 obtain ⟨b, rfl⟩ : ∃ k : Nat, had = k := ⟨had.toNat, by omega⟩
 obtain ⟨c, rfl⟩ : ∃ k : Nat, W = k := ⟨W.toNat, by omega⟩
 obtain ⟨d, rfl⟩ : ∃ k : Nat, H = k := ⟨H.toNat, by omega⟩
 have hl2 : l.length = a * b := by rw [mulN] at hl; omega
 rw [hl2] at hv
 rw [Int.toNat_natCast, Int.toNat_natCast, Int.toNat_natCast, Int.toNat_natCast]
 exact rsized_W l v a b c d w hZ hv hl2 (by omega) (by omega) (by omega) (by omega)
def RtR (e : Int) (s : Scr) (u : Value) (C : Addr → Value → Prop) : Prop := ∃ cs, u = .tuple #[.agg cs.toArray, .int .i64 e] ∧ ScV C s cs
theorem rtR_mono {e : Int} {s : Scr} : ∀ v (C C' : Addr → Value → Prop), (∀ p x, C p x → C' p x) → RtR e s v C → RtR e s v C' := by
 rintro v C C' hC ⟨cs, rfl, h⟩
 exact ⟨cs, rfl, h.mono hC⟩
set_option maxHeartbeats 4000000 in
theorem rresize_P (s : Scr) (cs : List Value) (W H : Int) (w : World) {Z : Nat → Prop} (hZ : ∀ j, w.heap.size ≤ j → Z j) (hs : ScV (At w) s cs) (h1 : s.cells.length ≤ maxLen) (h2 : s.main.length ≤ maxLen) :
  GivesP tb 15 [.agg cs.toArray, .int .i64 W, .int .i64 H] w Z (RsR W H s) := by
 replace hs := scv_cz hs
 obtain ⟨v1, v2, rfl, hcs, hms⟩ := id hs
 obtain ⟨a1, c1, rfl, _⟩ := slc_sl hcs
 obtain ⟨a2, c2, rfl, _⟩ := slc_sl hms
 refine givesP_of (fn := Try.f15) Try.func15 rfl Try.ntmps15 rfl hZ rsR_mono (fun on => ?_)
 repeat refine s_seqs ?_
 refine s_reg ?_
 refine step_box_agg rfl rfl (fun b3 => ?_)
 refine step_alloc rfl zero27 (fun b6 => ?_)
 refine qa rfl rfl ?_
 refine Vc.step_end (fun a w ok => ?_)
 first | (refine WPs.run ?_ a w ok; clear ok w a) | skip
 repeat refine s_seqs ?_
 refine s_reg ?_
 first | refine step_pure rfl (pure_load_agg (i := 0) rfl rfl rfl rfl rfl (by first | decide | exact Nat.le_of_ble_eq_true rfl) rfl) ?_ | refine step_pure rfl (pure_load_agg (i := 1) rfl rfl rfl rfl rfl (by first | decide | exact Nat.le_of_ble_eq_true rfl) rfl) ?_ | refine step_pure rfl (pure_load_agg (i := 2) rfl rfl rfl rfl rfl (by first | decide | exact Nat.le_of_ble_eq_true rfl) rfl) ?_ | refine step_pure rfl (pure_load_agg (i := 3) rfl rfl rfl rfl rfl (by first | decide | exact Nat.le_of_ble_eq_true rfl) rfl) ?_ | refine step_pure rfl (pure_load_agg (i := 4) rfl rfl rfl rfl rfl (by first | decide | exact Nat.le_of_ble_eq_true rfl) rfl) ?_ | refine step_pure rfl (pure_load_agg (i := 5) rfl rfl rfl rfl rfl (by first | decide | exact Nat.le_of_ble_eq_true rfl) rfl) ?_
 refine step_wm [] _ on.sc rfl fun37 rfl (List.Perm.refl _) (fun w' Z' hh kp h0 hZ hZ0 hC => rcopy_W s _ w' hZ (hs.mono (Cz.now kp)) h1 h2) ?_
 rintro u m1 E3 g ⟨base, cap, a7, l7, c7, e, rfl, rfl, hse, hm7⟩
 replace on := on.next g
 replace hs := hs.mono g.cz
 replace hcs := hcs.mono g.cz
 replace hms := hms.mono g.cz
 clear g
 refine l_let 0 rfl (fun E4 g hcc => ?_)
 have hc7 := slis_cz hse (hcc _ on.sc)
 replace on := on.next g
 replace hs := hs.mono g.cz
 replace hcs := hcs.mono g.cz
 replace hms := hms.mono g.cz
 replace hm7 := hm7.mono g.cz
 clear g hcc hse
 refine step_alloc rfl zero27 (fun b8 => ?_)
 refine step_store_agg 0 rfl rfl rfl (scC_one (doI s) base a7 (doI s).cells.length cap l7 c7) rfl rfl rfl rfl (Nat.le_of_ble_eq_true rfl) (show _ = scC (doI s) (.slice base (doI s).cells.length cap) (.slice a7 l7 c7) from rfl) ?_
 refine Vc.step_end (fun a w ok => ?_)
 first | (refine WPs.run ?_ a w ok; clear ok w a) | skip
 have hck := fun w' (kp : Keep E4.w0 w' E4.ws) => rcheck_any s _ w' (hs.mono (Cz.now kp)) h1 h2
 unfold ckE at hck
 cases hok : scOk s with
 | false =>
  rw [hok, if_neg (by decide)] at hck
  have hdi : doI s = zScr := by unfold doI; rw [hok]; rfl
  have hdf : doF (resizeF W H) s = doI s := by unfold doF; rw [hok, hdi]; rfl
  have hre : rsE s W H = 0 := by unfold rsE; rw [hok]; rfl
  repeat refine s_seqs ?_
  refine s_reg ?_
  first | refine step_pure rfl (pure_load_agg (i := 0) rfl rfl rfl rfl rfl (by first | decide | exact Nat.le_of_ble_eq_true rfl) rfl) ?_ | refine step_pure rfl (pure_load_agg (i := 1) rfl rfl rfl rfl rfl (by first | decide | exact Nat.le_of_ble_eq_true rfl) rfl) ?_ | refine step_pure rfl (pure_load_agg (i := 2) rfl rfl rfl rfl rfl (by first | decide | exact Nat.le_of_ble_eq_true rfl) rfl) ?_ | refine step_pure rfl (pure_load_agg (i := 3) rfl rfl rfl rfl rfl (by first | decide | exact Nat.le_of_ble_eq_true rfl) rfl) ?_ | refine step_pure rfl (pure_load_agg (i := 4) rfl rfl rfl rfl rfl (by first | decide | exact Nat.le_of_ble_eq_true rfl) rfl) ?_ | refine step_pure rfl (pure_load_agg (i := 5) rfl rfl rfl rfl rfl (by first | decide | exact Nat.le_of_ble_eq_true rfl) rfl) ?_
  refine step_gives rfl fun38 rfl (fun w' hh kp => hck w' kp) ?_
  refine step_pure rfl (pure_neq rfl rfl) ?_
  refine Vc.step_end (fun a w ok => ?_)
  first | (refine WPs.run ?_ a w ok; clear ok w a) | skip
  repeat refine s_seqs ?_
  refine s_cond_yes rfl rfl ?_
  repeat refine s_seqs ?_
  refine s_reg ?_
  first | refine step_pure rfl (pure_load_agg (i := 0) rfl rfl rfl rfl rfl (by first | decide | exact Nat.le_of_ble_eq_true rfl) rfl) ?_ | refine step_pure rfl (pure_load_agg (i := 1) rfl rfl rfl rfl rfl (by first | decide | exact Nat.le_of_ble_eq_true rfl) rfl) ?_ | refine step_pure rfl (pure_load_agg (i := 2) rfl rfl rfl rfl rfl (by first | decide | exact Nat.le_of_ble_eq_true rfl) rfl) ?_ | refine step_pure rfl (pure_load_agg (i := 3) rfl rfl rfl rfl rfl (by first | decide | exact Nat.le_of_ble_eq_true rfl) rfl) ?_ | refine step_pure rfl (pure_load_agg (i := 4) rfl rfl rfl rfl rfl (by first | decide | exact Nat.le_of_ble_eq_true rfl) rfl) ?_ | refine step_pure rfl (pure_load_agg (i := 5) rfl rfl rfl rfl rfl (by first | decide | exact Nat.le_of_ble_eq_true rfl) rfl) ?_
  refine step_store_agg 1 rfl rfl rfl (scC_one (doI s) base a7 (doI s).cells.length cap l7 c7) rfl rfl rfl rfl (Nat.le_of_ble_eq_true rfl) (show _ = scC (doI s) (.slice base (doI s).cells.length cap) (.slice a7 l7 c7) from rfl) ?_
  refine qa rfl rfl ?_
  refine Vc.step_end (fun a w ok => ?_)
  first | (refine WPs.run ?_ a w ok; clear ok w a) | skip
  exact s_ret fun a w ok => ends_givesP on (.inr rfl) ok (res_cell_tmp (i := 1) Try.results15 rfl rfl rfl rfl rfl (Nat.le_of_ble_eq_true rfl) rfl rfl) rsR_mono ⟨_, by rw [hre], by rw [hdf]; exact ⟨_, _, rfl, hc7, hm7⟩⟩
 | true =>
  have hoks := (scOk_iff s).1 hok
  rw [hok, if_pos rfl] at hck
  rw [doI_yes hoks] at hc7 hm7 ⊢
  repeat refine s_seqs ?_
  refine s_reg ?_
  first | refine step_pure rfl (pure_load_agg (i := 0) rfl rfl rfl rfl rfl (by first | decide | exact Nat.le_of_ble_eq_true rfl) rfl) ?_ | refine step_pure rfl (pure_load_agg (i := 1) rfl rfl rfl rfl rfl (by first | decide | exact Nat.le_of_ble_eq_true rfl) rfl) ?_ | refine step_pure rfl (pure_load_agg (i := 2) rfl rfl rfl rfl rfl (by first | decide | exact Nat.le_of_ble_eq_true rfl) rfl) ?_ | refine step_pure rfl (pure_load_agg (i := 3) rfl rfl rfl rfl rfl (by first | decide | exact Nat.le_of_ble_eq_true rfl) rfl) ?_ | refine step_pure rfl (pure_load_agg (i := 4) rfl rfl rfl rfl rfl (by first | decide | exact Nat.le_of_ble_eq_true rfl) rfl) ?_ | refine step_pure rfl (pure_load_agg (i := 5) rfl rfl rfl rfl rfl (by first | decide | exact Nat.le_of_ble_eq_true rfl) rfl) ?_
  refine step_gives rfl fun38 rfl (fun w' hh kp => hck w' kp) ?_
  refine step_pure rfl (pure_neq rfl rfl) ?_
  refine Vc.step_end (fun a w ok => ?_)
  first | (refine WPs.run ?_ a w ok; clear ok w a) | skip
  repeat refine s_seqs ?_
  refine s_cond_no rfl rfl ?_
  refine s_skip fun a w ok => WPs.run ?_ a w ok
  clear ok w a
  clear hck hs
  repeat refine s_seqs ?_
  refine s_meet [(1, .int .i64 W), (2, .int .i64 H), (3, .pointer (some ⟨b3, 0, none⟩)), (6, .pointer (some ⟨b6, 0, none⟩)), (8, .pointer (some ⟨b8, 0, none⟩)), (22, .bool (!(side W && side H)))]
   [⟨b8, scC s (.slice base s.cells.length cap) (.slice a7 l7 c7), tSc⟩, ⟨b6, scC zScr (.slice none 0 0) (.slice none 0 0), tSc⟩, ⟨b3, scC s (.slice a1 s.cells.length c1) (.slice a2 s.main.length c2), tSc⟩] ?_ (fun a w ok => WPs.run ?_ a w ok)
  ·have hsw := fun w => side_any W w
   have hsh := fun w => side_any H w
   generalize side W = x at *
   generalize side H = y at *
   repeat refine c_seq ?_
   refine c_region ?_
   refine qm rfl rfl ?_
   refine step_gives rfl fun39 rfl (fun w _ _ => hsw w) ?_
   refine step_pure rfl (pure_not rfl) ?_
   refine qm rfl rfl ?_
   refine step_split (t := 18) rfl (fun h18 => ?_) (fun h18 => ?_)
   ·refine qp rfl rfl rfl ?_
    refine qp rfl rfl rfl ?_
    refine qp rfl rfl rfl ?_
    refine step_pure rfl (pure_pick_yes rfl rfl) ?_
    refine step_nil ?_
    refine less_of ⟨rfl, rfl, rfl, rfl, rfl, ?_, trivial⟩ rfl
    refine congrArg some (congrArg Value.bool ?_)
    clear hsw hsh
    simp_all
   ·refine qm rfl rfl ?_
    refine step_gives rfl fun39 rfl (fun w _ _ => hsh w) ?_
    refine step_pure rfl (pure_not rfl) ?_
    refine step_pure rfl (pure_pick_no rfl rfl) ?_
    refine step_nil ?_
    refine less_of ⟨rfl, rfl, rfl, rfl, rfl, ?_, trivial⟩ rfl
    refine congrArg some (congrArg Value.bool ?_)
    clear hsw hsh
    simp_all
  have hdf : doF (resizeF W H) s = resizeF W H s := by unfold doF; rw [hok]; rfl
  have hre : rsE s W H = if (side W && side H) = true then 0 else 170 := by unfold rsE; rw [hok, Bool.true_and]; cases side W && side H <;> rfl
  have hR : RsR W H s = RtR (if (side W && side H) = true then 0 else 170) (resizeF W H s) := by
   unfold RsR RtR
   rw [hdf, hre]
  rw [hR]
  clear hdf hre hR
  cases hsd : (side W && side H) with
  | false =>
   rw [show resizeF W H s = s from by unfold resizeF; rw [hsd]; rfl]
   repeat refine s_seqs ?_
   refine s_cond_yes rfl rfl ?_
   repeat refine s_seqs ?_
   refine s_reg ?_
   first | refine step_pure rfl (pure_load_agg (i := 0) rfl rfl rfl rfl rfl (by first | decide | exact Nat.le_of_ble_eq_true rfl) rfl) ?_ | refine step_pure rfl (pure_load_agg (i := 1) rfl rfl rfl rfl rfl (by first | decide | exact Nat.le_of_ble_eq_true rfl) rfl) ?_ | refine step_pure rfl (pure_load_agg (i := 2) rfl rfl rfl rfl rfl (by first | decide | exact Nat.le_of_ble_eq_true rfl) rfl) ?_ | refine step_pure rfl (pure_load_agg (i := 3) rfl rfl rfl rfl rfl (by first | decide | exact Nat.le_of_ble_eq_true rfl) rfl) ?_ | refine step_pure rfl (pure_load_agg (i := 4) rfl rfl rfl rfl rfl (by first | decide | exact Nat.le_of_ble_eq_true rfl) rfl) ?_ | refine step_pure rfl (pure_load_agg (i := 5) rfl rfl rfl rfl rfl (by first | decide | exact Nat.le_of_ble_eq_true rfl) rfl) ?_
   refine step_store_agg 1 rfl rfl rfl (scC_one s base a7 s.cells.length cap l7 c7) rfl rfl rfl rfl (Nat.le_of_ble_eq_true rfl) (show _ = scC s (.slice base s.cells.length cap) (.slice a7 l7 c7) from rfl) ?_
   refine qa rfl rfl ?_
   refine Vc.step_end (fun a w ok => ?_)
   first | (refine WPs.run ?_ a w ok; clear ok w a) | skip
   exact s_ret fun a w ok => ends_givesP on (.inr rfl) ok (res_cell_tmp (i := 1) Try.results15 rfl rfl rfl rfl rfl (Nat.le_of_ble_eq_true rfl) rfl rfl) rtR_mono ⟨_, rfl, _, _, rfl, hc7, hm7⟩
  | true =>
   obtain ⟨k1, k2⟩ := Bool.and_eq_true_iff.1 hsd
   have k1 := side_in k1
   have k2 := side_in k2
   have hXX := hoks.x
   have hYY := hoks.y
   have hrs : resizeF W H s = { s with cells := sizedL s.cells s.W.toNat s.H.toNat W.toNat H.toNat, main := if s.alt = true then sizedL s.main s.W.toNat s.H.toNat W.toNat H.toNat else s.main, W := W, H := H, X := min s.X (W - 1), Y := min s.Y (H - 1), top := 0, bot := H - 1, wrap := false } := by
    unfold resizeF
    rw [hsd]
    rfl
   rw [hrs]
   clear hrs
   have hsz := fun (w' : World) (Z' : Nat → Prop) (hZ' : ∀ j, w'.heap.size ≤ j → Z' j) hv => rsized_I s.cells (.slice a1 s.cells.length c1) s.W s.H W H w' (Z := Z') hZ' hv (okCells_len hoks.cells) hoks.w hoks.h k1 k2
   have hszm : s.alt = true → ∀ (w' : World) (Z' : Nat → Prop) (hZ' : ∀ j, w'.heap.size ≤ j → Z' j) (hv : SlC (At w') 2 (.slice a2 s.main.length c2) s.main.length (ceR s.main)), _ := fun ha w' Z' hZ' hv => rsized_I s.main (.slice a2 s.main.length c2) s.W s.H W H w' (Z := Z') hZ' hv (by
    have := okCells_len hoks.main
    rw [if_pos ha] at this
    exact this) hoks.w hoks.h k1 k2
   generalize sizedL s.cells s.W.toNat s.H.toNat W.toNat H.toNat = l5 at *
   repeat refine s_seqs ?_
   refine s_cond_no rfl rfl ?_
   refine s_skip fun a w ok => WPs.run ?_ a w ok
   clear ok w a
   repeat refine s_seqs ?_
   refine s_reg ?_
   refine step_pure rfl (pure_fieldAddr rfl rfl rfl rfl rfl (by decide)) ?_
   first | refine step_pure rfl (pure_load (i := 0) rfl rfl rfl rfl rfl rfl) ?_ | refine step_pure rfl (pure_load (i := 1) rfl rfl rfl rfl rfl rfl) ?_ | refine step_pure rfl (pure_load (i := 2) rfl rfl rfl rfl rfl rfl) ?_ | refine step_pure rfl (pure_load (i := 3) rfl rfl rfl rfl rfl rfl) ?_ | refine step_pure rfl (pure_load (i := 4) rfl rfl rfl rfl rfl rfl) ?_ | refine step_pure rfl (pure_load (i := 5) rfl rfl rfl rfl rfl rfl) ?_
   refine step_pure rfl (pure_fieldAddr rfl rfl rfl rfl rfl (by decide)) ?_
   first | refine step_pure rfl (pure_load (i := 0) rfl rfl rfl rfl rfl rfl) ?_ | refine step_pure rfl (pure_load (i := 1) rfl rfl rfl rfl rfl rfl) ?_ | refine step_pure rfl (pure_load (i := 2) rfl rfl rfl rfl rfl rfl) ?_ | refine step_pure rfl (pure_load (i := 3) rfl rfl rfl rfl rfl rfl) ?_ | refine step_pure rfl (pure_load (i := 4) rfl rfl rfl rfl rfl rfl) ?_ | refine step_pure rfl (pure_load (i := 5) rfl rfl rfl rfl rfl rfl) ?_
   refine step_pure rfl (pure_fieldAddr rfl rfl rfl rfl rfl (by decide)) ?_
   first | refine step_pure rfl (pure_load (i := 0) rfl rfl rfl rfl rfl rfl) ?_ | refine step_pure rfl (pure_load (i := 1) rfl rfl rfl rfl rfl rfl) ?_ | refine step_pure rfl (pure_load (i := 2) rfl rfl rfl rfl rfl rfl) ?_ | refine step_pure rfl (pure_load (i := 3) rfl rfl rfl rfl rfl rfl) ?_ | refine step_pure rfl (pure_load (i := 4) rfl rfl rfl rfl rfl rfl) ?_ | refine step_pure rfl (pure_load (i := 5) rfl rfl rfl rfl rfl rfl) ?_
   refine qm rfl rfl ?_
   refine qm rfl rfl ?_
   refine step_wm [] _ on.sc rfl fun40 rfl (List.Perm.refl _) (fun w' Z' hh kp h0 hZ hZ0 hC => hsz w' Z' hZ (hcs.mono (Cz.now kp))) ?_
   rintro u m1 E5 g ⟨b5', k5, e5, rfl, rfl, hse5⟩
   replace on := on.next g
   replace hms := hms.mono g.cz
   replace hm7 := hm7.mono g.cz
   clear g
   refine l_let 0 rfl (fun E6 g hcc => ?_)
   have hc5 := slis_cz hse5 (hcc _ on.sc)
   replace on := on.next g
   replace hms := hms.mono g.cz
   replace hm7 := hm7.mono g.cz
   clear g hcc hse5
   refine step_pure rfl (pure_fieldAddr rfl rfl rfl rfl rfl (by decide)) ?_
   refine step_store 0 rfl rfl rfl rfl rfl rfl rfl rfl (Nat.le_of_ble_eq_true rfl) (show _ = scC s (.slice b5' l5.length k5) (.slice a7 l7 c7) from rfl) ?_
   refine Vc.step_end (fun a w ok => ?_)
   first | (refine WPs.run ?_ a w ok; clear ok w a) | skip
   repeat refine s_seqs ?_
   refine s_reg ?_
   refine step_pure rfl (pure_fieldAddr rfl rfl rfl rfl rfl (by decide)) ?_
   first | refine step_pure rfl (pure_load (i := 0) rfl rfl rfl rfl rfl rfl) ?_ | refine step_pure rfl (pure_load (i := 1) rfl rfl rfl rfl rfl rfl) ?_ | refine step_pure rfl (pure_load (i := 2) rfl rfl rfl rfl rfl rfl) ?_ | refine step_pure rfl (pure_load (i := 3) rfl rfl rfl rfl rfl rfl) ?_ | refine step_pure rfl (pure_load (i := 4) rfl rfl rfl rfl rfl rfl) ?_ | refine step_pure rfl (pure_load (i := 5) rfl rfl rfl rfl rfl rfl) ?_
   refine Vc.step_end (fun a w ok => ?_)
   first | (refine WPs.run ?_ a w ok; clear ok w a) | skip
   have hl7 : l7 = s.main.length := by obtain ⟨_, _, hq, _⟩ := hm7; cases hq; rfl
   subst hl7
   repeat refine s_seqs ?_
   refine s_meetP (α := Option Addr × Nat) (fun _ => [(1, .int .i64 W), (2, .int .i64 H), (3, .pointer (some ⟨b3, 0, none⟩)), (6, .pointer (some ⟨b6, 0, none⟩)), (8, .pointer (some ⟨b8, 0, none⟩))])
    (fun y => [⟨b8, scC s (.slice b5' l5.length k5) (.slice y.1 (if s.alt = true then sizedL s.main s.W.toNat s.H.toNat W.toNat H.toNat else s.main).length y.2), tSc⟩, ⟨b6, scC zScr (.slice none 0 0) (.slice none 0 0), tSc⟩, ⟨b3, scC s (.slice a1 s.cells.length c1) (.slice a2 s.main.length c2), tSc⟩])
    (fun y E => SlC (Cz Z E) 2 (.slice y.1 (if s.alt = true then sizedL s.main s.W.toNat s.H.toNat W.toNat H.toNat else s.main).length y.2) (if s.alt = true then sizedL s.main s.W.toNat s.H.toNat W.toNat H.toNat else s.main).length (ceR (if s.alt = true then sizedL s.main s.W.toNat s.H.toNat W.toNat H.toNat else s.main)) ∧ SlC (Cz Z E) 2 (.slice b5' l5.length k5) l5.length (ceR l5)) ?_ ?_
   ·repeat refine s_seqs ?_
    refine s_cond rfl (fun ha => ?_) (fun ha => ?_)
    ·rw [if_pos ha]
     replace hszm := hszm ha
     generalize sizedL s.main s.W.toNat s.H.toNat W.toNat H.toNat = l6 at *
     repeat refine s_seqs ?_
     refine s_reg ?_
     refine step_pure rfl (pure_fieldAddr rfl rfl rfl rfl rfl (by decide)) ?_
     first | refine step_pure rfl (pure_load (i := 0) rfl rfl rfl rfl rfl rfl) ?_ | refine step_pure rfl (pure_load (i := 1) rfl rfl rfl rfl rfl rfl) ?_ | refine step_pure rfl (pure_load (i := 2) rfl rfl rfl rfl rfl rfl) ?_ | refine step_pure rfl (pure_load (i := 3) rfl rfl rfl rfl rfl rfl) ?_ | refine step_pure rfl (pure_load (i := 4) rfl rfl rfl rfl rfl rfl) ?_ | refine step_pure rfl (pure_load (i := 5) rfl rfl rfl rfl rfl rfl) ?_
     refine step_pure rfl (pure_fieldAddr rfl rfl rfl rfl rfl (by decide)) ?_
     first | refine step_pure rfl (pure_load (i := 0) rfl rfl rfl rfl rfl rfl) ?_ | refine step_pure rfl (pure_load (i := 1) rfl rfl rfl rfl rfl rfl) ?_ | refine step_pure rfl (pure_load (i := 2) rfl rfl rfl rfl rfl rfl) ?_ | refine step_pure rfl (pure_load (i := 3) rfl rfl rfl rfl rfl rfl) ?_ | refine step_pure rfl (pure_load (i := 4) rfl rfl rfl rfl rfl rfl) ?_ | refine step_pure rfl (pure_load (i := 5) rfl rfl rfl rfl rfl rfl) ?_
     refine step_pure rfl (pure_fieldAddr rfl rfl rfl rfl rfl (by decide)) ?_
     first | refine step_pure rfl (pure_load (i := 0) rfl rfl rfl rfl rfl rfl) ?_ | refine step_pure rfl (pure_load (i := 1) rfl rfl rfl rfl rfl rfl) ?_ | refine step_pure rfl (pure_load (i := 2) rfl rfl rfl rfl rfl rfl) ?_ | refine step_pure rfl (pure_load (i := 3) rfl rfl rfl rfl rfl rfl) ?_ | refine step_pure rfl (pure_load (i := 4) rfl rfl rfl rfl rfl rfl) ?_ | refine step_pure rfl (pure_load (i := 5) rfl rfl rfl rfl rfl rfl) ?_
     refine qm rfl rfl ?_
     refine qm rfl rfl ?_
     refine step_wm [] _ on.sc rfl fun40 rfl (List.Perm.refl _) (fun w' Z' hh kp h0 hZ hZ0 hC => hszm w' Z' hZ (hms.mono (Cz.now kp))) ?_
     rintro u m1 E7 g ⟨b9', k9, e9, rfl, rfl, hse9⟩
     replace on := on.next g
     replace hc5 := hc5.mono g.cz
     have g5 := g
     clear g
     refine l_let 0 rfl (fun E8 g hcc => ?_)
     have hc9 := slis_cz hse9 (hcc _ on.sc)
     replace hc5 := hc5.mono g.cz
     have g6 := g5.trans g
     clear g hcc hse9
     refine step_pure rfl (pure_fieldAddr rfl rfl rfl rfl rfl (by decide)) ?_
     refine step_store 0 rfl rfl rfl rfl rfl rfl rfl rfl (Nat.le_of_ble_eq_true rfl) (show _ = scC s (.slice b5' l5.length k5) (.slice b9' l6.length k9) from rfl) ?_
     refine Vc.step_end (fun a w ok => ?_)
     refine ⟨(b9', k9), E8, ⟨hc9, hc5⟩, g6, Less.ok ?_ ok⟩
     exact less_of ⟨rfl, rfl, rfl, rfl, rfl, trivial⟩ rfl
    ·have ha' : ¬ s.alt = true := by rw [ha]; decide
     rw [if_neg ha']
     refine s_skip fun a w ok => ?_
     refine ⟨(a7, c7), _, ⟨hm7, hc5⟩, Gt.refl _, Less.ok ?_ ok⟩
     exact less_of ⟨rfl, rfl, rfl, rfl, rfl, trivial⟩ rfl
   rintro y E9 ⟨hy1, hy2⟩ g a w ok
   refine WPs.run ?_ a w ok
   clear ok w a hszm hsz
   replace on := on.next g
   clear g
   generalize (if s.alt = true then sizedL s.main s.W.toNat s.H.toNat W.toNat H.toNat else s.main) = l6 at *
   repeat refine s_seqs ?_
   refine s_reg ?_
   refine qm rfl rfl ?_
   refine step_pure rfl (pure_fieldAddr rfl rfl rfl rfl rfl (by decide)) ?_
   refine step_store 0 rfl rfl rfl rfl rfl rfl rfl rfl (Nat.le_of_ble_eq_true rfl) (show _ = scC { s with W := W } (.slice b5' l5.length k5) (.slice y.1 l6.length y.2) from rfl) ?_
   refine Vc.step_end (fun a w ok => ?_)
   first | (refine WPs.run ?_ a w ok; clear ok w a) | skip
   repeat refine s_seqs ?_
   refine s_reg ?_
   refine qm rfl rfl ?_
   refine step_pure rfl (pure_fieldAddr rfl rfl rfl rfl rfl (by decide)) ?_
   refine step_store 0 rfl rfl rfl rfl rfl rfl rfl rfl (Nat.le_of_ble_eq_true rfl) (show _ = scC { s with W := W, H := H } (.slice b5' l5.length k5) (.slice y.1 l6.length y.2) from rfl) ?_
   refine Vc.step_end (fun a w ok => ?_)
   first | (refine WPs.run ?_ a w ok; clear ok w a) | skip
   repeat refine s_seqs ?_
   refine s_reg ?_
   refine step_pure rfl (pure_fieldAddr rfl rfl rfl rfl rfl (by decide)) ?_
   first | refine step_pure rfl (pure_load (i := 0) rfl rfl rfl rfl rfl rfl) ?_ | refine step_pure rfl (pure_load (i := 1) rfl rfl rfl rfl rfl rfl) ?_ | refine step_pure rfl (pure_load (i := 2) rfl rfl rfl rfl rfl rfl) ?_ | refine step_pure rfl (pure_load (i := 3) rfl rfl rfl rfl rfl rfl) ?_ | refine step_pure rfl (pure_load (i := 4) rfl rfl rfl rfl rfl rfl) ?_ | refine step_pure rfl (pure_load (i := 5) rfl rfl rfl rfl rfl rfl) ?_
   refine qm rfl rfl ?_
   first | refine step_pure rfl (pure_sub64 rfl rfl (by omega) (by omega)) ?_ | refine step_pure rfl (pure_sub rfl rfl) ?_
   refine step_pure rfl (pure_min rfl rfl) ?_
   refine step_pure rfl (pure_fieldAddr rfl rfl rfl rfl rfl (by decide)) ?_
   refine step_store 0 rfl rfl rfl rfl rfl rfl rfl rfl (Nat.le_of_ble_eq_true rfl) (show _ = scC { s with W := W, H := H, X := min s.X (W - 1) } (.slice b5' l5.length k5) (.slice y.1 l6.length y.2) from rfl) ?_
   refine Vc.step_end (fun a w ok => ?_)
   first | (refine WPs.run ?_ a w ok; clear ok w a) | skip
   repeat refine s_seqs ?_
   refine s_reg ?_
   refine step_pure rfl (pure_fieldAddr rfl rfl rfl rfl rfl (by decide)) ?_
   first | refine step_pure rfl (pure_load (i := 0) rfl rfl rfl rfl rfl rfl) ?_ | refine step_pure rfl (pure_load (i := 1) rfl rfl rfl rfl rfl rfl) ?_ | refine step_pure rfl (pure_load (i := 2) rfl rfl rfl rfl rfl rfl) ?_ | refine step_pure rfl (pure_load (i := 3) rfl rfl rfl rfl rfl rfl) ?_ | refine step_pure rfl (pure_load (i := 4) rfl rfl rfl rfl rfl rfl) ?_ | refine step_pure rfl (pure_load (i := 5) rfl rfl rfl rfl rfl rfl) ?_
   refine qm rfl rfl ?_
   first | refine step_pure rfl (pure_sub64 rfl rfl (by omega) (by omega)) ?_ | refine step_pure rfl (pure_sub rfl rfl) ?_
   refine step_pure rfl (pure_min rfl rfl) ?_
   refine step_pure rfl (pure_fieldAddr rfl rfl rfl rfl rfl (by decide)) ?_
   refine step_store 0 rfl rfl rfl rfl rfl rfl rfl rfl (Nat.le_of_ble_eq_true rfl) (show _ = scC { s with W := W, H := H, X := min s.X (W - 1), Y := min s.Y (H - 1) } (.slice b5' l5.length k5) (.slice y.1 l6.length y.2) from rfl) ?_
   refine Vc.step_end (fun a w ok => ?_)
   first | (refine WPs.run ?_ a w ok; clear ok w a) | skip
   repeat refine s_seqs ?_
   refine s_reg ?_
   refine step_pure rfl (pure_fieldAddr rfl rfl rfl rfl rfl (by decide)) ?_
   refine step_store 0 rfl rfl rfl rfl rfl rfl rfl rfl (Nat.le_of_ble_eq_true rfl) (show _ = scC { s with W := W, H := H, X := min s.X (W - 1), Y := min s.Y (H - 1), top := 0 } (.slice b5' l5.length k5) (.slice y.1 l6.length y.2) from rfl) ?_
   refine Vc.step_end (fun a w ok => ?_)
   first | (refine WPs.run ?_ a w ok; clear ok w a) | skip
   repeat refine s_seqs ?_
   refine s_reg ?_
   refine qm rfl rfl ?_
   first | refine step_pure rfl (pure_sub64 rfl rfl (by omega) (by omega)) ?_ | refine step_pure rfl (pure_sub rfl rfl) ?_
   refine step_pure rfl (pure_fieldAddr rfl rfl rfl rfl rfl (by decide)) ?_
   refine step_store 0 rfl rfl rfl rfl rfl rfl rfl rfl (Nat.le_of_ble_eq_true rfl) (show _ = scC { s with W := W, H := H, X := min s.X (W - 1), Y := min s.Y (H - 1), top := 0, bot := H - 1 } (.slice b5' l5.length k5) (.slice y.1 l6.length y.2) from rfl) ?_
   refine Vc.step_end (fun a w ok => ?_)
   first | (refine WPs.run ?_ a w ok; clear ok w a) | skip
   repeat refine s_seqs ?_
   refine s_reg ?_
   refine step_pure rfl (pure_fieldAddr rfl rfl rfl rfl rfl (by decide)) ?_
   refine step_store 0 rfl rfl rfl rfl rfl rfl rfl rfl (Nat.le_of_ble_eq_true rfl) (show _ = scC { s with W := W, H := H, X := min s.X (W - 1), Y := min s.Y (H - 1), top := 0, bot := H - 1, wrap := false } (.slice b5' l5.length k5) (.slice y.1 l6.length y.2) from rfl) ?_
   refine Vc.step_end (fun a w ok => ?_)
   first | (refine WPs.run ?_ a w ok; clear ok w a) | skip
   repeat refine s_seqs ?_
   refine s_reg ?_
   first | refine step_pure rfl (pure_load_agg (i := 0) rfl rfl rfl rfl rfl (by first | decide | exact Nat.le_of_ble_eq_true rfl) rfl) ?_ | refine step_pure rfl (pure_load_agg (i := 1) rfl rfl rfl rfl rfl (by first | decide | exact Nat.le_of_ble_eq_true rfl) rfl) ?_ | refine step_pure rfl (pure_load_agg (i := 2) rfl rfl rfl rfl rfl (by first | decide | exact Nat.le_of_ble_eq_true rfl) rfl) ?_ | refine step_pure rfl (pure_load_agg (i := 3) rfl rfl rfl rfl rfl (by first | decide | exact Nat.le_of_ble_eq_true rfl) rfl) ?_ | refine step_pure rfl (pure_load_agg (i := 4) rfl rfl rfl rfl rfl (by first | decide | exact Nat.le_of_ble_eq_true rfl) rfl) ?_ | refine step_pure rfl (pure_load_agg (i := 5) rfl rfl rfl rfl rfl (by first | decide | exact Nat.le_of_ble_eq_true rfl) rfl) ?_
   refine step_store_agg 1 rfl rfl rfl (scC_one { s with W := W, H := H, X := min s.X (W - 1), Y := min s.Y (H - 1), top := 0, bot := H - 1, wrap := false } b5' y.1 l5.length k5 l6.length y.2) rfl rfl rfl rfl (Nat.le_of_ble_eq_true rfl) rfl ?_
   refine qa rfl rfl ?_
   refine Vc.step_end (fun a w ok => ?_)
   first | (refine WPs.run ?_ a w ok; clear ok w a) | skip
   exact s_ret fun a w ok => ends_givesP on (.inr rfl) ok (res_cell_tmp (i := 1) Try.results15 rfl rfl rfl rfl rfl (Nat.le_of_ble_eq_true rfl) rfl rfl) rtR_mono ⟨_, rfl, _, _, rfl, hy2, hy1⟩
end Go.Proofs.Ytbcpgdjhomoghaa
