/- Put and Resize: walked. -/
import Derived.Test.YtadginombcjbeaaG15
namespace Go.Proofs.Ytadginombcjbeaa
open Go.RowKit Go.Vc
set_option linter.unusedVariables false
set_option maxHeartbeats 1000000 in
theorem put_P (s : Scr) (cs : List Value) (x : Int) (w : World) {Z : Nat → Prop} (hZ : ∀ j, w.heap.size ≤ j → Z j) (hs : ScV (At w) s cs) (h1 : s.cells.length ≤ maxLen) (h2 : s.main.length ≤ maxLen) :
  GivesP tb 23 [.agg cs.toArray, .int .i64 x] w Z (ScR (doF (putF x) s)) := by
 replace hs := scv_cz hs
 obtain ⟨hcl, hco⟩ := scv_form hs
 obtain ⟨a1, l1, c1, a2, l2, c2, rfl⟩ := scv_agg hs
 refine givesP_of (fn := Try.f23) Try.func23 rfl Try.ntmps23 rfl hZ scR_mono (fun on => ?_)
 rw [show putF x = fun s => setF (putN x) (preF s) from rfl]
 repeat refine s_seqs ?_
 refine s_reg ?_
 refine step_box_agg rfl rfl (fun b2 => ?_)
 refine step_box rfl rfl rfl (fun b3 => ?_)
 refine step_alloc rfl zero32 (fun b4 => ?_)
 refine Vc.step_end (fun a w ok => ?_)
 first | (refine WPs.run ?_ a w ok; clear ok w a) | skip
 repeat refine s_seqs ?_
 refine s_reg ?_
 first | refine step_pure rfl (pure_load (i := 0) rfl rfl rfl rfl rfl rfl) ?_ | refine step_pure rfl (pure_load (i := 1) rfl rfl rfl rfl rfl rfl) ?_ | refine step_pure rfl (pure_load (i := 2) rfl rfl rfl rfl rfl rfl) ?_ | refine step_pure rfl (pure_load (i := 3) rfl rfl rfl rfl rfl rfl) ?_ | refine step_pure rfl (pure_load (i := 4) rfl rfl rfl rfl rfl rfl) ?_ | refine step_pure rfl (pure_load (i := 5) rfl rfl rfl rfl rfl rfl) ?_
 refine step_gives rfl fun16 rfl (fun w _ _ => within_any _ _ _ w) ?_
 refine step_pure rfl (pure_not rfl) ?_
 refine Vc.step_end (fun a w ok => ?_)
 first | (refine WPs.run ?_ a w ok; clear ok w a) | skip
 repeat refine s_seqs ?_
 refine s_meet [(2, .pointer (some ⟨b2, 0, none⟩)), (3, .pointer (some ⟨b3, 0, none⟩)), (4, .pointer (some ⟨b4, 0, none⟩))] [⟨b4, scC zScr (.slice none 0 0) (.slice none 0 0), tSc⟩, ⟨b3, [.int .i64 (putN x)], 3⟩, ⟨b2, scC s (.slice a1 l1 c1) (.slice a2 l2 c2), tSc⟩] ?_ (fun a w ok => WPs.run ?_ a w ok)
 ·unfold putN
  repeat refine c_seq ?_
  refine c_cond rfl (fun h => ?_) (fun h => ?_)
  ·rw [if_neg (show ¬(32 ≤ x ∧ x ≤ 1114111) from fun hx => by rw [decide_eq_true hx] at h; cases h)]
   repeat refine c_seq ?_
   refine c_region ?_
   refine step_store 1 rfl rfl rfl rfl rfl rfl rfl rfl (Nat.le_of_ble_eq_true rfl) rfl ?_
   refine step_nil ?_
   exact less_of ⟨rfl, rfl, rfl, trivial⟩ rfl
  ·rw [if_pos (show 32 ≤ x ∧ x ≤ 1114111 from Decidable.byContradiction fun hx => by rw [decide_eq_false hx] at h; cases h)]
   refine c_skip ?_
   exact less_of ⟨rfl, rfl, rfl, trivial⟩ rfl
 generalize putN x = y at *
 refine s_let 1 rfl (fun E0 g0 hc0 => ?_)
 replace hc0 := hc0 _ on.sc 0 _ rfl
 replace on := on.next g0
 replace hs := hs.mono g0.cz
 clear g0
 repeat refine s_seqs ?_
 refine s_reg ?_
 first | refine step_pure rfl (pure_load_agg (i := 0) rfl rfl rfl rfl rfl (by first | decide | exact Nat.le_of_ble_eq_true rfl) rfl) ?_ | refine step_pure rfl (pure_load_agg (i := 1) rfl rfl rfl rfl rfl (by first | decide | exact Nat.le_of_ble_eq_true rfl) rfl) ?_ | refine step_pure rfl (pure_load_agg (i := 2) rfl rfl rfl rfl rfl (by first | decide | exact Nat.le_of_ble_eq_true rfl) rfl) ?_ | refine step_pure rfl (pure_load_agg (i := 3) rfl rfl rfl rfl rfl (by first | decide | exact Nat.le_of_ble_eq_true rfl) rfl) ?_ | refine step_pure rfl (pure_load_agg (i := 4) rfl rfl rfl rfl rfl (by first | decide | exact Nat.le_of_ble_eq_true rfl) rfl) ?_ | refine step_pure rfl (pure_load_agg (i := 5) rfl rfl rfl rfl rfl (by first | decide | exact Nat.le_of_ble_eq_true rfl) rfl) ?_
 refine step_pure rfl (pure_makeFunc rfl) ?_
 refine step_givesP on.sc rfl fun18 rfl (fun w' Z' hh kp hZ hC => done_P s _ (fun s => setF y (preF s)) 37 [.pointer (some ⟨b3, 0, none⟩)] w' hZ (hs.mono (Cz.now kp)) h1 h2 fun37 (fun hok => does_sr (kp_put hok y) (fun w2 Z2 bs bc n cap v2 tl hC2 hP => put1_W hP b3 y (hC2 _ _ (hC _ _ hc0))))) ?_
 rintro v E5 g ⟨cs', rfl, hs'⟩
 replace on := on.next g
 obtain ⟨hl5, ho5⟩ := scv_form hs'
 refine step_store_agg 0 rfl rfl rfl ho5 rfl hl5 rfl rfl (Nat.le_of_ble_eq_true rfl) (splice_all hl5) ?_
 refine Vc.step_end (fun a w ok => ?_)
 first | (refine WPs.run ?_ a w ok; clear ok w a) | skip
 exact s_ret fun a w ok => ends_givesP on (.inr rfl) ok (res_cell_agg (i := 0) Try.results23 rfl rfl rfl rfl rfl (by show 0 + 16 ≤ cs'.length; omega) (by show (cs'.drop 0).take 16 = cs'; rw [List.drop_zero]; exact List.take_of_length_le (by omega))) scR_mono ⟨cs', rfl, hs'⟩
def rsE (s : Scr) (W H : Int) : Int := if (scOk s && !(side W && side H)) = true then 170 else 0
def RsR (W H : Int) (s : Scr) (u : Value) (C : Addr → Value → Prop) : Prop := ∃ cs, u = .tuple #[.agg cs.toArray, .int .i64 (rsE s W H)] ∧ ScV C (doF (resizeF W H) s) cs
theorem rsR_mono {W H : Int} {s : Scr} : ∀ v (C C' : Addr → Value → Prop), (∀ p x, C p x → C' p x) → RsR W H s v C → RsR W H s v C' := by
 rintro v C C' hC ⟨cs, rfl, h⟩
 exact ⟨cs, rfl, h.mono hC⟩
end Go.Proofs.Ytadginombcjbeaa
